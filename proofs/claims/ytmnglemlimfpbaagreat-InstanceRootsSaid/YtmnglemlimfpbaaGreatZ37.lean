/- find, variable, expr. | ref. | call. -/
import Derived.Test.YtmnglemlimfpbaaGreatZ36
import Derived.Test.YtmnglemlimfpbaaGreatZ29
namespace Go.Proofs.YtmnglemlimfpbaaGreat
open Go.Can Go.bg
theorem jR (x:En):(gJ x).length=3:=rfl
def J59 (E:List En)(s:ByteArray)(n:Nat)(st:St):Prop:=∃ i:Nat,n=E.length-i∧i≤E.length∧ig E s=ig (E.drop i) s∧st=⟨[(6,I i),(5,.bool false),(4,.aq 0 0),(0,.ax (E.flatMap gJ) E.length),(1,.str s)],[(0,⟨146,0,[.str ⟨#[]⟩,I 0,I 0]⟩)],1⟩
def o0:Option En→CV
 | some x=>.df [.agg (gJ x),.bool true]
 | none=>.df [.agg [.str ⟨#[]⟩,I 0,I 0],.bool false]
theorem Bx (R:Option En):tree (o0 R)=true:=by cases R<;>rfl
theorem pa (E:List En)(s:ByteArray)(hl:E.length≤100000):ah Tryz.prog 59 [.ax (E.flatMap gJ) E.length,.str s] (o0 (ig E s)):=by
 have hfl:=fun (i:Nat) (x:En) (h:E[i]? = some x)=>aV (f:=gJ) (n:=3) jR (m:=E) h
 refine ah.bl aa Tryz.func59 rfl (by kernel_rfl) (by simp[Tryz.ntmps59]) (Bx _) fun C hC hC0=>?_
 rw[Tryz.ntmps59] at hC
 refine T.seq (T.go' aa ?_)
 simp[hC]
 refine T.seq (T.seq (T.go' aa ?_))
 simp[hC]
 refine T.block ?_
 refine T.aS (J59 E s) (n:=E.length) ?_ ?_
 ·refine ae.here ⟨0,by omega,by omega,rfl,?_⟩
  simp
 ·rintro n st ⟨i,rfl,hi,hf,rfl⟩
  by_cases hil:i<E.length
  ·obtain⟨a,hia⟩:∃ a,E[i]? = some a:=⟨E[i],List.getElem?_eq_getElem hil⟩
   have hdr:=hfl i a hia
   have wi:=db ((i:Int)+1) (by omega) (by omega)
   have hd:E.drop i=a::E.drop (i+1):=by
    rw[List.drop_eq_getElem_cons hil,(List.getElem?_eq_some_iff.1 hia).2]
   rw[hd,ig] at hf
   refine T.seq (T.seq (T.go' aa ?_))
   simp[hC,hil]
   refine T.cond (b:=true) rfl (T.skip ?_)
   simp
   refine T.seq (T.block ?_)
   refine T.seq (T.go' aa ?_)
   simp[hC,hil,hdr,gJ,gT]
   by_cases hn:a.name=s
   ·rw[if_pos hn] at hf
    simp only[hn,decide_true]
    refine T.cond (b:=true) rfl ?_
    simp
    refine T.seq (T.go' aa ?_)
    simp[hC,hil,hdr,gJ]
    refine T.ret ?_
    refine ae.here ?_
    simp[Tryz.results59,hf,o0,gJ]
   ·rw[if_neg hn] at hf
    simp only[hn,decide_false]
    refine T.cond (b:=false) rfl (T.skip ?_)
    simp
    refine T.go' aa ?_
    simp[hC,wi]
    refine⟨E.length-(i+1),by omega,?_⟩
    refine ae.trim [6,5,4,0,1] [0] 1 (by simp) (by omega) ⟨i+1,rfl,by omega,hf,?_⟩
    simp
  ·have hie:i=E.length:=by omega
   rw[hie,List.drop_length,ig] at hf
   refine T.seq (T.seq (T.go' aa ?_))
   simp[hC,hil]
   refine T.cond (b:=false) rfl ?_
   simp
   refine T.exit ?_
   simp
   refine T.seq (T.go' aa ?_)
   simp[hC]
   refine T.ret ?_
   refine ae.here ?_
   simp[Tryz.results59,hf,o0]
def lS (p:Pg)(E:List En)(k st cl sl:Nat):List CV:=[.ax (p.gs.flatMap ny) p.gs.length,.ax (p.ms.flatMap js) p.ms.length,.ax (p.fs.flatMap eP) p.fs.length,.ax (E.flatMap gJ) E.length,I k,I st,I 0,I 0,.bw 1 0 cl,.bw 2 0 sl]
def cO (p:Pg)(E:List En)(k st cl sl:Nat):Ob:=⟨196,0,lS p E k st cl sl⟩
theorem qj (p:Pg)(E:List En)(k st cl sl:Nat)(hl:E.length≤100000)(s:ByteArray)(x:En)(hx:ig E s=some x)(hk:x.kind=1∨x.kind=4)(n:Int) :
  Body Tryz.prog aj 132 [.aq 0 0,.str s,I n] [(0,cO p E k st cl sl)] 3 (iR (.agg (gJ x)) [(0,cO p E k st cl sl)] 3):=by
 have hf:=pa E s hl
 rw[hx] at hf
 refine Body.iN Tryz.func132 rfl (by kernel_rfl) (by simp[Tryz.ntmps132]) fun C hC hC0=>?_
 rw[Tryz.ntmps132] at hC
 refine T.seq (T.go' aa ?_)
 simp[hC]
 refine T.seq (T.go' aa ?_)
 simp[hC,cO,lS]
 refine TL.call (by simp[hC]) rfl rfl (aI.of rfl (by first | rfl | simp only[List.cons_append,List.nil_append,List.append_nil,trees,tree,ag,ak,Bool.and_self,Bool.and_true,Bool.true_and]) (hf)) (TL.go' aa ?_)
 simp[hC,o0,gJ]
 obtain⟨nm,kd,nn⟩:=x
 simp only at hk ⊢
 rcases hk with rfl | rfl
 ·refine T.seq (T.block ?_)
  refine T.seq (T.go' aa ?_)
  simp[hC]
  refine T.cond (b:=false) rfl ?_
  simp
  refine T.seq (T.go' aa ?_)
  simp[hC]
  refine T.cond (b:=false) rfl (T.skip ?_)
  simp
  refine T.seq (T.go' aa ?_)
  simp[hC]
  refine T.ret ?_
  refine ae.le (Le.trim [6] [0,3] 4 (by simp[-List.all_eq_true]) (by omega)) ?_
  simp
  refine ae.le (Le.nz [] [3]) ?_
  simp
  refine ae.le (Le.eM (o:=3) rfl (by first | rfl | exact ag _)) ?_
  simp
  refine ae.trim [6] [0] 3 (by simp) (by omega) ⟨_,?_,rfl,?_,rfl⟩
  ·simp
  ·simp
 ·refine T.seq (T.block ?_)
  refine T.seq (T.go' aa ?_)
  simp[hC]
  refine T.cond (b:=false) rfl ?_
  simp
  refine T.seq (T.go' aa ?_)
  simp[hC]
  refine T.cond (b:=false) rfl (T.skip ?_)
  simp
  refine T.seq (T.go' aa ?_)
  simp[hC]
  refine T.ret ?_
  refine ae.le (Le.trim [6] [0,3] 4 (by simp[-List.all_eq_true]) (by omega)) ?_
  simp
  refine ae.le (Le.nz [] [3]) ?_
  simp
  refine ae.le (Le.eM (o:=3) rfl (by first | rfl | exact ag _)) ?_
  simp
  refine ae.trim [6] [0] 3 (by simp) (by omega) ⟨_,?_,rfl,?_,rfl⟩
  ·simp
  ·simp
def jG (l:List Ex):Ob:=⟨64,4,l.flatMap bB⟩
def J131 (p:Pg)(E:List En)(k st cl sl:Nat)(e:Ex)(n:Int)(m:Nat)(s:St):Prop:=∃ i:Nat,m=e.args.length-i∧i≤e.args.length∧
 s=⟨[(9,I i),(8,.aq 5 0),(6,.aq 4 0),(4,.aq 3 0),(0,.aq 0 0),(2,I n)],[(0,cO p E k st cl sl),(3,⟨64,0,bB e⟩),(4,⟨64,0,[I 0,I 0,.str ⟨#[]⟩,.ai]⟩),(5,⟨64,0,[I e.op,I e.n,.str ⟨#[]⟩,.bw 6 0 i]⟩),(6,jG ((e.args.take i).map (dB E)))],7⟩
set_option maxHeartbeats 4000000 in
theorem k7 (p:Pg)(E:List En)(k st cl sl:Nat)(n:Int)(e e':Ex)(hop:(e.op == 2)=false)(h1:e'.op=e.op)(h2:e'.n=e.n)(h3:e'.name=eS)(h4:e'.args=e.args.map (dB E))(hal:e.args.length≤2)
  (ha:∀ x∈e.args,Body Tryz.prog aj 131 [.aq 0 0,.agg (bB x),I n] [(0,cO p E k st cl sl)] 3 (iR (.agg (bB (dB E x))) [(0,cO p E k st cl sl)] 3)) :
  Body Tryz.prog aj 131 [.aq 0 0,.agg (bB e),I n] [(0,cO p E k st cl sl)] 3 (iR (.agg (bB e')) [(0,cO p E k st cl sl)] 3):=by
 have hfl:=fun (i:Nat) (x:Ex) (h:e.args[i]? = some x)=>aV (f:=bB) (n:=4) bA (m:=e.args) h
 refine Body.iN Tryz.func131 rfl (by kernel_rfl) (by simp[Tryz.ntmps131]) fun C hC hC0=>?_
 rw[Tryz.ntmps131] at hC
 rw[bP e]
 refine T.seq (T.go' aa ?_)
 simp[hC]
 refine T.seq (T.seq (T.go' aa ?_))
 simp[hC,hop]
 refine T.cond (b:=false) rfl (T.skip ?_)
 simp
 refine T.seq (T.go' aa ?_)
 simp[hC]
 refine T.seq (T.seq (T.go' aa ?_))
 simp[hC]
 refine T.block ?_
 refine T.aS (J131 p E k st cl sl e n) (n:=e.args.length) ?_ ?_
 ·refine ae.le (Le.lK 5 3 64 4 rfl rfl) ?_
  simp
  refine ae.trim [9,8,6,4,0,2] [0,3,4,5,6] 7 (by simp[cO,lS]) (by omega) ⟨0,by omega,by omega,?_⟩
  rw[bP e]
  simp[jG]
 ·rintro m s ⟨i,rfl,hi,rfl⟩
  by_cases hil:i<e.args.length
  ·obtain⟨a,hia⟩:∃ a,e.args[i]? = some a:=⟨e.args[i],List.getElem?_eq_getElem hil⟩
   have hdr:=hfl i a hia
   have hb:=ha a (List.mem_of_getElem? hia)
   have wi:=db ((i:Int)+1) (by omega) (by omega)
   rw[bP e]
   refine T.seq (T.seq (T.go' aa ?_))
   simp[hC,hil]
   refine T.cond (b:=true) rfl (T.skip ?_)
   simp
   refine T.seq (T.block ?_)
   refine T.rx aa follows [0,1,2,3,4,5,6,7,8,9,10,11,12,13] [(1,9),(1,10)] (by kernel_rfl) ?_
   simp[hC,hil,hdr]
   have htk:List.take (i+1) (List.map (dB E) e.args)=List.take i (List.map (dB E) e.args)++[dB E a]:=by
    rw[List.take_add_one,List.getElem?_map,hia]
    rfl
   have hNl:(List.take i (List.map (dB E) e.args)).length=i:=by simp;omega
   generalize hN:List.take i (List.map (dB E) e.args)=N at htk hNl
   have hfl2:=bu (f:=bB) (n:=4) bA N
   rw[hNl] at hfl2
   have hbd:(i+1)*56≤140737488355328:=by omega
   have hbd2:(i+1)*64≤140737488355328:=by omega
   refine RX.cr [0] [] 3 (hb) rfl (by simp) rfl rfl rfl rfl (by simp) (by first | rfl | simp[aC,aG,aD,aT,-List.all_eq_true]) (by first | rfl | simp[au,ints]) rfl rfl rfl (by simp) ?_
   simp[jG,bA,hfl2,hbd,aX,-List.length_flatMap]
   refine T.go' aa ?_
   simp[hC,wi]
   refine⟨e.args.length-(i+1),by omega,?_⟩
   have hN3:(N++[dB E a]).flatMap bB=N.flatMap bB++bB (dB E a):=by simp
   have htr:trees (N.flatMap bB++bB (dB E a))=true:=by rw[← hN3];exact ay ag _
   refine ae.le (Le.trim [9,8,6,4,0,2] [0,3,4,5,21] 22 (by simp only[cO,lS];simp[-List.all_eq_true,-List.all_flatMap,aT,af (ay ag N)]) (by omega)) ?_
   simp
   refine ae.le (Le.na 21 6 rfl rfl (by omega) (by simp) (by simp) (by simp only[cO,lS];simp[-List.all_eq_true,-List.all_flatMap,a6 (ay ag N),qY])) ?_
   simp only[cO,lS]
   simp[aY (ay ag N)]
   have htk':(e.args.take (i+1)).map (dB E)=N++[dB E a]:=by rw[List.map_take];exact htk
   refine ae.trim [9,8,6,4,0,2] [0,3,4,5,6] 7 (by simp[-List.all_eq_true,-List.all_flatMap,aT,af (ay ag N)]) (by omega) ⟨i+1,rfl,by omega,?_⟩
   rw[htk',bP e]
   simp[jG,cO,lS]
  ·have hie:i=e.args.length:=by omega
   rw[bP e]
   refine T.seq (T.seq (T.go' aa ?_))
   simp[hC,hil]
   refine T.cond (b:=false) rfl ?_
   simp
   refine T.exit ?_
   simp
   refine T.seq (T.go' aa ?_)
   simp[hC]
   refine T.ret ?_
   subst hie
   have htk:List.take e.args.length (List.map (dB E) e.args)=e'.args:=by rw[h4];exact List.take_of_length_le (by simp)
   have hxl:((e'.args.flatMap bB).take (e.args.length*4))=e'.args.flatMap bB:=List.take_of_length_le (by rw[bu (f:=bB) (n:=4) bA,h4];simp)
   refine ae.le (Le.trim [6] [0,4,6] 7 (by simp only[cO,lS,jG];simp[-List.all_eq_true,-List.all_flatMap,af (ay ag _)]) (by omega)) ?_
   simp
   refine ae.le (Le.eM (o:=6) rfl (ay ag _)) ?_
   simp[jG,htk,hxl]
   refine ae.le (Le.eM (o:=4) rfl (by simp[trees,tree])) ?_
   simp[cO,lS]
   refine ae.trim [6] [0] 3 (by simp) (by omega) ⟨_,?_,rfl,?_,rfl⟩
   ·simp[bP e',h1,h2,h3,h4,eS]
   ·simp
theorem ju (p:Pg){g:Nat}{ms:List Mx}{fs:List (ByteArray×List Pm)}{ps:List Pm}{V:List ByteArray}(E:List En)(k st cl sl:Nat)(hE:EW g ms fs ps V E k)(hl:E.length≤100000)(n:Int):∀ (d:Nat) (e:Ex),fp V d e →
  Body Tryz.prog aj 131 [.aq 0 0,.agg (bB e),I n] [(0,cO p E k st cl sl)] 3 (iR (.agg (bB (dB E e))) [(0,cO p E k st cl sl)] 3):=by
 have hname:∀ s∈V,Body Tryz.prog aj 131 [.aq 0 0,.agg (bB (.nm s)),I n] [(0,cO p E k st cl sl)] 3 (iR (.agg (bB (dB E (.nm s)))) [(0,cO p E k st cl sl)] 3):=by
  intro s hs
  obtain⟨c,j,h1,h2⟩:=hE.v s hs
  have hv:=qj p E k st cl sl hl s _ h1 (by simp only;omega) n
  simp only[dB,gA h1]
  refine Body.iN Tryz.func131 rfl (by kernel_rfl) (by simp[Tryz.ntmps131]) fun C hC hC0=>?_
  rw[Tryz.ntmps131] at hC
  simp only[cO,lS] at hv ⊢
  refine T.seq (T.go' aa ?_)
  simp[hC,bB]
  refine T.seq (T.seq (T.go' aa ?_))
  simp[hC]
  refine T.cond (b:=true) rfl ?_
  simp
  refine T.seq (T.go' aa ?_)
  simp[hC]
  refine TL.cr aa [0] 3 (hv) (by simp[hC]) rfl rfl rfl rfl (by simp) (by first | rfl | simp[aC,aG,aD,aT,-List.all_eq_true]) (by first | rfl | simp[au,ints]) rfl (TL.go' aa ?_)
  simp[hC,gJ]
  rcases h2 with ⟨rfl,h2⟩ | ⟨rfl,h2⟩
  ·refine T.seq (T.seq (T.go' aa ?_))
   simp[hC]
   refine T.cond (b:=true) rfl ?_
   simp
   refine T.seq (T.go' aa ?_)
   simp[hC]
   refine T.ret ?_
   refine ae.le (Le.trim [6] [0,4] 5 (by simp[-List.all_eq_true]) (by omega)) ?_
   simp
   refine ae.le (Le.nz [] [4]) ?_
   simp
   refine ae.le (Le.eM (o:=4) rfl (by first | rfl | exact ag _)) ?_
   simp
   refine ae.trim [6] [0] 3 (by simp) (by omega) ⟨_,?_,rfl,?_,rfl⟩
   ·simp[bB,eS]
   ·simp
  ·refine T.seq (T.seq (T.go' aa ?_))
   simp[hC]
   refine T.cond (b:=false) rfl (T.skip ?_)
   simp
   refine T.seq (T.go' aa ?_)
   simp[hC]
   refine T.ret ?_
   refine ae.le (Le.trim [6] [0,4] 5 (by simp[-List.all_eq_true]) (by omega)) ?_
   simp
   refine ae.le (Le.nz [] [4]) ?_
   simp
   refine ae.le (Le.eM (o:=4) rfl (by first | rfl | exact ag _)) ?_
   simp
   refine ae.trim [6] [0] 3 (by simp) (by omega) ⟨_,?_,rfl,?_,rfl⟩
   ·simp[bB,eS]
   ·simp
 intro d
 induction d with
 | zero=>
  intro e hw
  match e,hw with
  | .nm s,hw=>exact hname s (by simpa [fp] using hw)
  | .num c,hw=>exact k7 p E k st cl sl n (.num c) (.num c) rfl rfl rfl rfl rfl (by simp[Ex.args]) (by simp[Ex.args])
 | succ d ih=>
  intro e hw
  match e,hw with
  | .nm s,hw=>exact hname s (by simpa [fp] using hw)
  | .num c,hw=>exact k7 p E k st cl sl n (.num c) (.num c) rfl rfl rfl rfl rfl (by simp[Ex.args]) (by simp[Ex.args])
  | .un o x,hw=>
   simp only[fp] at hw
   refine k7 p E k st cl sl n (.un o x) (.un o (dB E x)) (by simp[Ex.op];omega) rfl rfl rfl rfl (by simp[Ex.args]) fun y hy=>?_
   simp only[Ex.args,List.mem_singleton] at hy
   subst hy
   exact ih _ hw.2
  | .bin o x y,hw=>
   simp only[fp] at hw
   refine k7 p E k st cl sl n (.bin o x y) (.bin o (dB E x) (dB E y)) (by simp[Ex.op];omega) rfl rfl rfl rfl (by simp[Ex.args]) fun z hz=>?_
   simp only[Ex.args,List.mem_cons,List.not_mem_nil,or_false] at hz
   rcases hz with rfl | rfl
   ·exact ih _ hw.2.1
   ·exact ih _ hw.2.2
end Go.Proofs.YtmnglemlimfpbaaGreat
namespace Go.Proofs.YtmnglemlimfpbaaGreat
open Go.Can Go.bg
def uP (o:Option Ex):List Ex:=match o with
 | none=>[]
 | some e=>[e]
theorem mf (o:Option Ex):nu o=.ax ((uP o).flatMap bB) (uP o).length:=by cases o<;>simp[nu,uP]
def J134 (p:Pg)(E:List En)(k st cl sl:Nat)(nm:ByteArray)(il:List Ex)(b:Bool)(j:Nat)(n:Int)(m:Nat)(s:St):Prop:=∃ i:Nat,m=il.length-i∧i≤il.length∧
 s=⟨[(11,I i),(9,.aq 18 0),(6,.aq 4 0),(4,.aq 3 0),(0,.aq 0 0),(2,I n)],[(0,cO p E k st cl sl),(3,⟨185,0,[.str nm,.ax (il.flatMap bB) il.length]⟩),(4,⟨66,0,[.bool false,I 0,.ai]⟩),(18,⟨66,0,[.bool b,I j,.bw 19 0 i]⟩),(19,jG ((il.take i).map (dB E)))],20⟩
set_option maxHeartbeats 4000000 in
theorem AG (p:Pg){g:Nat}{fs:List (ByteArray×List Pm)}{ps:List Pm}{V:List ByteArray}(E:List En)(k st cl sl:Nat)(hE:EW g p.ms fs ps V E k)(hl:E.length≤100000)(_hm:p.ms.length≤1000)(n:Int)(r:Rf)(hr:CL p.ms ps V r) :
  Body Tryz.prog aj 134 [.aq 0 0,.agg (j3 r),I n] [(0,cO p E k st cl sl)] 3 (iR (.agg (nO (vF E r))) [(0,cO p E k st cl sl)] 3):=by
 obtain⟨c,j,hf,hcase,he⟩:∃ c j,ig E r.name=some ⟨r.name,c,j⟩∧((c=2∧∃ m,p.ms[j]? = some m∧((0:Int)<m.size↔0<(uP r.index).length))∨(c=5∧(uP r.index).length=0))∧∀ e∈uP r.index,fp V 1 e:=by
  rcases hr with ⟨m,h1,h2,h3⟩ | ⟨q,h1,h2,h3,h4⟩
  ·obtain⟨j,h4,h5⟩:=hE.m m h1
   rw[← h2] at h4
   refine⟨2,j,h4,.inl ⟨rfl,m,h5,?_⟩,fun e he=>?_⟩
   ·rcases h3 with ⟨h6,h7⟩ | ⟨e,h6,h7,_⟩
    ·simp[h6,uP,h7]
    ·simp[h6,uP,h7]
   ·rcases h3 with ⟨h6,h7⟩ | ⟨e',h6,h7,h8⟩
    ·simp[h6,uP] at he
    ·simp only[h6,uP,List.mem_singleton] at he
     subst he
     exact h8
  ·obtain⟨j,h5,h6⟩:=hE.p q h1 h2
   rw[← h3] at h5
   exact⟨5,j,h5,.inr ⟨rfl,by simp[h4,uP]⟩,fun e he=>by simp[h4,uP] at he⟩
 have hfd:=pa E r.name hl
 rw[hf] at hfd
 have hres:nO (vF E r)=[.bool (decide (c=5)),I j,.ax (((uP r.index).map (dB E)).flatMap bB) ((uP r.index).map (dB E)).length]:=by
  simp only[vF,nO,gA hf,mf]
  cases r.index<;>simp[uP]
 have hfl:=fun (i:Nat) (x:Ex) (h:(uP r.index)[i]? = some x)=>aV (f:=bB) (n:=4) bA (m:=uP r.index) h
 have hil2:(uP r.index).length≤1:=by cases r.index<;>simp[uP]
 rw[hres]
 simp only[j3,mf]
 generalize uP r.index=il at hcase he hfl hil2
 generalize r.name=nm at hf hfd
 clear hres hr
 refine Body.iN Tryz.func134 rfl (by kernel_rfl) (by simp[Tryz.ntmps134]) fun C hC hC0=>?_
 rw[Tryz.ntmps134] at hC
 refine T.seq (T.go' aa ?_)
 simp[hC]
 refine T.seq ?_
 refine T.rx aa follows [0,1,2,3,4,5,10,6,7,8,9,11,12] [(3,10),(5,10),(10,6)] (by kernel_rfl) ?_
 simp[hC,cO,lS]
 refine RX.call rfl (by simp) rfl rfl rfl (by first | rfl | simp only[List.cons_append,List.nil_append,List.append_nil,trees,tree,ag,ak,Bool.and_self,Bool.and_true,Bool.true_and]) (hfd) ?_
 simp[o0,gJ]
 have hc5:((c:Int) == 5)=decide (c=5):=by rcases hcase with ⟨rfl,_⟩ | ⟨rfl,_⟩<;>rfl
 refine T.seq (T.go' aa ?_)
 simp[hC,hc5]
 refine T.cut (fun s=>s=⟨[(9,.aq 18 0),(6,.aq 4 0),(4,.aq 3 0),(0,.aq 0 0),(2,I n)],[(0,cO p E k st cl sl),(3,⟨185,0,[.str nm,.ax (il.flatMap bB) il.length]⟩),(4,⟨66,0,[.bool false,I 0,.ai]⟩),(18,⟨66,0,[.bool (decide (c=5)),I j,.ai]⟩)],19⟩) ?_ ?_
 ·rcases hcase with ⟨rfl,m,hmj,hiff⟩ | ⟨rfl,hl0⟩
  ·have hmd:=bG (f:=js) (n:=3) (fun _=>rfl) hmj 2 (by omega)
   have hjl:=(List.getElem?_eq_some_iff.1 hmj).1
   refine T.block ?_
   refine T.seq (T.go' aa ?_)
   simp[hC]
   refine T.cond (b:=false) rfl ?_
   simp
   refine T.seq (T.go' aa ?_)
   simp[hC]
   refine T.cond (b:=false) rfl ?_
   simp
   refine T.seq ?_
   refine T.rx aa follows [0,1,2,3,4,5,6,7,8,9,10,11,12,13,14,15,16] [] (by kernel_rfl) ?_
   simp[hC,hjl,hmd,js]
   by_cases hz:0<il.length
   ·have hz2:0<m.size:=by omega
    refine T.seq (T.go' aa ?_)
    simp[hC,hz,hz2]
    refine T.cond (b:=false) rfl (T.skip ?_)
    simp
    refine ae.trim [9,6,4,0,2] [0,3,4,18] 19 (by simp) (by omega) ?_
    simp[cO,lS]
   ·have hz2:¬ 0<m.size:=by omega
    refine T.seq (T.go' aa ?_)
    simp[hC,hz,hz2]
    refine T.cond (b:=false) rfl (T.skip ?_)
    simp
    refine ae.trim [9,6,4,0,2] [0,3,4,18] 19 (by simp) (by omega) ?_
    simp[cO,lS]
  ·refine T.block ?_
   refine T.seq (T.go' aa ?_)
   simp[hC]
   refine T.cond (b:=false) rfl ?_
   simp
   refine T.seq (T.go' aa ?_)
   simp[hC]
   refine T.cond (b:=false) rfl ?_
   simp
   refine T.seq ?_
   refine T.rx aa follows [0,1,2,3,4,5,6,7,8,9,10,11,12,13,14,15,16] [] (by kernel_rfl) ?_
   simp[hC]
   refine T.seq (T.go' aa ?_)
   simp[hC,hl0]
   refine T.cond (b:=false) rfl (T.skip ?_)
   simp
   refine ae.trim [9,6,4,0,2] [0,3,4,18] 19 (by simp) (by omega) ?_
   simp[cO,lS]
 rintro s rfl
 refine T.seq (T.seq (T.go' aa ?_))
 simp[hC]
 refine T.block ?_
 refine T.aS (J134 p E k st cl sl nm il (decide (c=5)) j n) (n:=il.length) ?_ ?_
 ·refine ae.le (Le.lK 18 2 64 4 rfl rfl) ?_
  simp
  refine ae.trim [11,9,6,4,0,2] [0,3,4,18,19] 20 (by simp[cO,lS]) (by omega) ⟨0,by omega,by omega,?_⟩
  simp[jG]
 ·rintro m s ⟨i,rfl,hi,rfl⟩
  by_cases hil:i<il.length
  ·obtain⟨a,hia⟩:∃ a,il[i]? = some a:=⟨il[i],List.getElem?_eq_getElem hil⟩
   have hdr:=hfl i a hia
   have hb:=ju p E k st cl sl hE hl n 1 a (he a (List.mem_of_getElem? hia))
   have wi:=db ((i:Int)+1) (by omega) (by omega)
   refine T.seq (T.seq (T.go' aa ?_))
   simp[hC,hil]
   refine T.cond (b:=true) rfl (T.skip ?_)
   simp
   refine T.seq (T.block ?_)
   refine T.rx aa follows [0,1,2,3,4,5,6,7,8,9,10,11,12,13] [(1,9),(1,10)] (by kernel_rfl) ?_
   simp[hC,hil,hdr]
   have htk:List.take (i+1) (List.map (dB E) il)=List.take i (List.map (dB E) il)++[dB E a]:=by
    rw[List.take_add_one,List.getElem?_map,hia]
    rfl
   have hNl:(List.take i (List.map (dB E) il)).length=i:=by simp;omega
   generalize hN:List.take i (List.map (dB E) il)=N at htk hNl
   have hfl2:=bu (f:=bB) (n:=4) bA N
   rw[hNl] at hfl2
   have hbd:(i+1)*56≤140737488355328:=by omega
   have hbd2:(i+1)*64≤140737488355328:=by omega
   refine RX.cr [0] [] 3 (hb) rfl (by simp) rfl rfl rfl rfl (by simp) (by first | rfl | simp[aC,aG,aD,aT,-List.all_eq_true]) (by first | rfl | simp[au,ints]) rfl rfl rfl (by simp) ?_
   simp[jG,bA,hfl2,hbd,aX,-List.length_flatMap]
   refine T.go' aa ?_
   simp[hC,wi]
   refine⟨il.length-(i+1),by omega,?_⟩
   have hN3:(N++[dB E a]).flatMap bB=N.flatMap bB++bB (dB E a):=by simp
   have htr:trees (N.flatMap bB++bB (dB E a))=true:=by rw[← hN3];exact ay ag _
   refine ae.le (Le.trim [11,9,6,4,0,2] [0,3,4,18,34] 35 (by simp only[cO,lS];simp[-List.all_eq_true,-List.all_flatMap,aT,af (ay ag N)]) (by omega)) ?_
   simp
   refine ae.le (Le.na 34 19 rfl rfl (by omega) (by simp) (by simp) (by simp only[cO,lS];simp[-List.all_eq_true,-List.all_flatMap,a6 (ay ag N),qY])) ?_
   simp only[cO,lS]
   simp[aY (ay ag N)]
   have htk':(il.take (i+1)).map (dB E)=N++[dB E a]:=by rw[List.map_take];exact htk
   refine ae.trim [11,9,6,4,0,2] [0,3,4,18,19] 20 (by simp[-List.all_eq_true,-List.all_flatMap,aT,af (ay ag N)]) (by omega) ⟨i+1,rfl,by omega,?_⟩
   rw[htk']
   simp[jG,cO,lS]
  ·have hie:i=il.length:=by omega
   refine T.seq (T.seq (T.go' aa ?_))
   simp[hC,hil]
   refine T.cond (b:=false) rfl ?_
   simp
   refine T.exit ?_
   simp
   refine T.seq (T.go' aa ?_)
   simp[hC]
   refine T.ret ?_
   subst hie
   have htk:List.take il.length (List.map (dB E) il)=il.map (dB E):=List.take_of_length_le (by simp)
   have hxl:(((il.map (dB E)).flatMap bB).take (il.length*4))=(il.map (dB E)).flatMap bB:=List.take_of_length_le (by rw[bu (f:=bB) (n:=4) bA];simp)
   refine ae.le (Le.trim [6] [0,4,19] 20 (by simp only[cO,lS,jG];simp[-List.all_eq_true,-List.all_flatMap,af (ay ag _)]) (by omega)) ?_
   simp
   refine ae.le (Le.eM (o:=19) rfl (ay ag _)) ?_
   simp[jG,htk,hxl]
   refine ae.le (Le.eM (o:=4) rfl (by simp[trees,tree])) ?_
   simp[cO,lS]
   refine ae.trim [6] [0] 3 (by simp) (by omega) ⟨_,?_,rfl,?_,rfl⟩
   ·simp
   ·simp
end Go.Proofs.YtmnglemlimfpbaaGreat
namespace Go.Proofs.YtmnglemlimfpbaaGreat
open Go.Can Go.bg
theorem p5 (E:List En):∀ a b:List Ar,cS E (a++b)=cS E a++cS E b
 | [],b=>rfl
 | .exp e::a,b=>by simp[cS,p5 E a b]
 | .sr r::a,b=>by simp[cS,p5 E a b]
theorem sa (E:List En):∀ a b:List Ar,eH E (a++b)=eH E a++eH E b
 | [],b=>rfl
 | .exp e::a,b=>by simp[eH,sa E a b]
 | .sr r::a,b=>by simp[eH,sa E a b]
theorem p4 (E:List En):∀ a:List Ar,(cS E a).length≤a.length
 | []=>Nat.le_refl _
 | .exp e::a=>by have:=p4 E a;simp[cS];omega
 | .sr r::a=>by have:=p4 E a;simp[cS];omega
theorem r9 (E:List En):∀ a:List Ar,(eH E a).length≤a.length
 | []=>Nat.le_refl _
 | .exp e::a=>by have:=r9 E a;simp[eH];omega
 | .sr r::a=>by have:=r9 E a;simp[eH];omega
theorem Fh {ms:List Mx}{ps:List Pm}{V:List ByteArray}:∀ {gp:List Pm} {al:List Ar} {i:Nat} {a:Ar},iJ ms ps V gp al→al[i]? = some a→∃ q,gp[i]? = some q∧ArW ms ps V q a
 | [],[],_,_,_,h=>by simp at h
 | q::gp,b::al,0,a,hw,h=>by
  simp only[iJ] at hw
  simp only[List.getElem?_cons_zero,Option.some.injEq] at h
  subst h
  exact⟨q,rfl,hw.1⟩
 | q::gp,b::al,i+1,a,hw,h=>by
  simp only[iJ] at hw
  simp only[List.getElem?_cons_succ] at h
  obtain⟨q',h1,h2⟩:=Fh hw.2 h
  exact⟨q',by simpa using h1,h2⟩
 | [],_::_,_,_,hw,_=>hw.elim
 | _::_,[],_,_,hw,_=>hw.elim
theorem oM (x:Pl):(nO x).length=3:=rfl
theorem kB (x:Pl):trees (nO x)=true:=by
 rcases x with ⟨_,_,_ | e⟩
 ·rfl
 ·simp only[nO,nu,trees,tree,Bool.and_self]
def tW (l:List Pl):Ob:=⟨66,3,l.flatMap nO⟩
def yW:List CV:=[I 0,I 0,.bool false,I 0,I 0,.str ⟨#[]⟩,.ai,.bool false,I 0,.ai,.ai,.ai]
def nI (kd:Int)(nm:ByteArray)(al:List Ar):List CV:=[I kd,.str nm,I 0,I 0,.str ⟨#[]⟩,.ax [] 0,.str ⟨#[]⟩,.ax [] 0,.ax (al.flatMap ni) al.length,.ax [] 0,.ax [] 0]
def J133 (p:Pg)(E:List En)(k st cl sl:Nat)(n:Int)(kd op:Int)(nm:ByteArray)(j:Nat)(gp:List Pm)(al:List Ar)(m:Nat)(s:St):Prop:=∃ i:Nat,m=al.length-i∧i≤al.length∧
 s=⟨[(11,I i),(10,.ax (gp.flatMap jL) gp.length),(7,.aq 5 0),(6,.aq 4 0),(4,.aq 3 0),(0,.aq 0 0),(2,I n)],[(0,cO p E k st cl sl),(3,⟨188,0,nI kd nm al⟩),(4,⟨69,0,yW⟩),
  (5,⟨69,0,[I op,I j,.bool false,I 0,I 0,.str ⟨#[]⟩,.ai,.bool false,I 0,.ai,.bw 6 0 (cS E (al.take i)).length,.bw 7 0 (eH E (al.take i)).length]⟩),(6,jG (cS E (al.take i))),(7,tW (eH E (al.take i)))],8⟩
set_option maxHeartbeats 4000000 in
theorem D5 (p:Pg){g:Nat}{ps:List Pm}{V:List ByteArray}(E:List En)(k st cl sl:Nat)(hE:EW g p.ms (p.fs.map fun f=>(f.name,f.params)) ps V E k)(hl:E.length≤100000)(hm:p.ms.length≤1000)(_hfl:p.fs.length≤1000)(n:Int)(go:Bool)(nm:ByteArray)(gp:List Pm)(al:List Ar)
  (hg:(nm,gp)∈p.fs.map fun f=>(f.name,f.params)) (hw:iJ p.ms ps V gp al) (hgl:gp.length≤1000) :
  Body Tryz.prog aj 133 [.aq 0 0,.agg (gI (.dI go nm al)),I n] [(0,cO p E k st cl sl)] 3 (iR (.agg (dt (.call go (kK E nm).n (cS E al) (eH E al)))) [(0,cO p E k st cl sl)] 3):=by
 obtain⟨j,hf,hfs⟩:=hE.f _ hg
 have hgl2:=hw.len
 have hfd:=pa E nm hl
 rw[hf] at hfd
 rw[gA hf]
 have hs:gI (.dI go nm al)=nI (if go=true then 4 else 3) nm al:=rfl
 rw[hs]
 obtain⟨f,hfj,hfn⟩:∃ f,p.fs[j]? = some f∧f.params=gp:=by
  rw[List.getElem?_map,Option.map_eq_some_iff] at hfs
  obtain⟨f,h1,h2⟩:=hfs
  exact⟨f,h1,by injection h2⟩
 have hfd1:=bG (f:=eP) (n:=3) (fun _=>rfl) hfj 1 (by omega)
 have hjl:=(List.getElem?_eq_some_iff.1 hfj).1
 refine Body.iN Tryz.func133 rfl (by kernel_rfl) (by simp[Tryz.ntmps133]) fun C hC hC0=>?_
 rw[Tryz.ntmps133] at hC
 refine T.seq (T.go' aa ?_)
 simp[hC]
 refine T.seq (T.go' aa ?_)
 simp[hC]
 simp only[cO,lS,nI]
 refine T.cut (fun s=>s=⟨[(7,.aq 5 0),(6,.aq 4 0),(4,.aq 3 0),(0,.aq 0 0),(2,I n)],[(0,cO p E k st cl sl),(3,⟨188,0,nI (if go=true then 4 else 3) nm al⟩),(4,⟨69,0,yW⟩),(5,⟨69,0,[I (if go=true then 3 else 2),I 0,.bool false,I 0,I 0,.str ⟨#[]⟩,.ai,.bool false,I 0,.ai,.ai,.ai]⟩)],6⟩) ?_ ?_
 ·cases go with
  | true=>
   refine T.seq (T.go' aa ?_)
   simp[hC]
   refine T.cond (b:=true) rfl ?_
   simp
   refine T.go' aa ?_
   simp[hC]
   refine ae.trim [7,6,4,0,2] [0,3,4,5] 6 (by simp) (by omega) ?_
   simp[cO,lS,nI,yW]
  | false=>
   refine T.seq (T.go' aa ?_)
   simp[hC]
   refine T.cond (b:=false) rfl (T.skip ?_)
   simp
   refine ae.trim [7,6,4,0,2] [0,3,4,5] 6 (by simp) (by omega) ?_
   simp[cO,lS,nI,yW]
 rintro s rfl
 refine T.seq ?_
 refine T.rx aa follows [0,1,2,3,4,5,10,6,7,8,9,11,12] [(3,10),(5,10),(10,6)] (by kernel_rfl) ?_
 simp[hC,cO,lS,nI,yW]
 refine RX.call rfl (by simp) rfl rfl rfl (by first | rfl | simp only[List.cons_append,List.nil_append,List.append_nil,trees,tree,ag,ak,Bool.and_self,Bool.and_true,Bool.true_and]) (hfd) ?_
 simp[o0,gJ]
 refine T.seq (T.block ?_)
 refine T.seq (T.go' aa ?_)
 simp[hC]
 refine T.cond (b:=false) rfl ?_
 simp
 refine T.seq (T.go' aa ?_)
 simp[hC]
 refine T.cond (b:=false) rfl (T.skip ?_)
 simp
 refine T.seq (T.go' aa ?_)
 simp[hC]
 refine T.seq ?_
 refine T.rx aa follows [0,1,2,3,4,5,6,7,8,9,10] [] (by kernel_rfl) ?_
 simp[hC,hjl,hfd1,eP,hfn]
 refine T.seq (T.seq (T.go' aa ?_))
 simp[hC,hgl2]
 refine T.cond (b:=false) rfl (T.skip ?_)
 simp
 refine T.le (Le.trim [10,7,6,4,0,2] [0,3,4,5] 6 (by simp) (by omega)) ?_
 simp
 generalize (if go=true then (4:Int) else 3)=kd
 have hop:(if go=true then (3:Int) else 2)=(if go then 3 else 2:Int):=rfl
 generalize hopg:(if go=true then (3:Int) else 2)=op
 refine T.seq (T.seq (T.go' aa ?_))
 simp[hC]
 refine T.block ?_
 refine T.aS (J133 p E k st cl sl n kd op nm j gp al) (n:=al.length) ?_ ?_
 ·refine ae.le (Le.lK 5 10 64 4 rfl rfl) ?_
  simp
  refine ae.le (Le.lK 5 11 66 3 rfl rfl) ?_
  simp
  refine ae.trim [11,10,7,6,4,0,2] [0,3,4,5,6,7] 8 (by simp) (by omega) ⟨0,by omega,by omega,?_⟩
  simp[jG,tW,cS,eH,cO,lS,nI,yW,hgl2]
 ·rintro m s ⟨i,rfl,hi,rfl⟩
  by_cases hil:i<al.length
  ·obtain⟨a,hia⟩:∃ a,al[i]? = some a:=⟨al[i],List.getElem?_eq_getElem hil⟩
   obtain⟨q,hiq,haw⟩:=Fh hw hia
   have hdr:=aV (f:=ni) (n:=7) rA hia
   have hdq:=bG (f:=jL) (n:=2) (fun _=>rfl) hiq 1 (by omega)
   have hil2:i<gp.length:=by omega
   have wi:=db ((i:Int)+1) (by omega) (by omega)
   have htk:al.take (i+1)=al.take i++[a]:=by rw[List.take_add_one,hia];rfl
   have hn1:=p4 E (al.take i)
   have hn2:=r9 E (al.take i)
   rw[List.length_take] at hn1 hn2
   have hI:cS E (al.take (i+1))=cS E (al.take i)++cS E [a]:=by rw[htk,p5]
   have hP:eH E (al.take (i+1))=eH E (al.take i)++eH E [a]:=by rw[htk,sa]
   generalize cS E (al.take i)=NI at hn1 hI
   generalize eH E (al.take i)=NP at hn2 hP
   have f1:=bu (f:=bB) (n:=4) bA NI
   have f2:=bu (f:=nO) (n:=3) oM NP
   have b1:(NI.length+1)*56≤140737488355328:=by omega
   have b2:(NP.length+1)*48≤140737488355328:=by omega
   have b3:(NP.length+1)*40≤140737488355328:=by omega
   have htp:∀ x:Pl,List.take 3 (nO x)=nO x:=fun _=>rfl
   have hte:∀ x:Ex,List.take 4 (bB x)=bB x:=fun x=>List.take_of_length_le (by rw[bA];exact Nat.le_refl _)
   have tE:=ay ag NI
   have tP:=ay kB NP
   refine T.seq (T.seq (T.go' aa ?_))
   simp[hC,hil2]
   refine T.cond (b:=true) rfl (T.skip ?_)
   simp
   refine T.seq (T.block ?_)
   cases a with
   | sr r=>
    have hb:=AG p E k st cl sl hE hl hm n r haw.2
    have hqm:q.mutex=true:=haw.1
    obtain⟨rn,ri⟩:=r
    obtain⟨q1,q2,hq⟩:∃ cs n,nu ri=.ax cs n:=by cases ri<;>exact⟨_,_,rfl⟩
    simp only[j3,hq] at hb
    simp only[ni,j3,bB,hq,List.cons_append,List.nil_append] at hdr
    refine T.seq (T.go' aa ?_)
    simp[hC,hil,hdr,nI]
    refine T.seq (T.seq ?_)
    refine T.rx aa follows [0,1,2,3,4,5,6,7] [] (by kernel_rfl) ?_
    simp[hC,hil2,hdq,jL,hqm]
    refine T.cond (b:=false) rfl (T.skip ?_)
    simp
    refine T.seq (T.go' aa ?_)
    simp[hC]
    refine T.cond (b:=true) rfl ?_
    simp
    refine T.rx aa follows [0,1,2,3,4,5,6,7,8,9,10] [(1,6),(1,7)] (by kernel_rfl) ?_
    simp[hC]
    refine RX.cr [0] [] 3 (hb) rfl (by simp) rfl rfl rfl rfl (by simp) (by first | rfl | simp[aC,aG,aD,aT,-List.all_eq_true]) (by first | rfl | simp[au,ints]) rfl rfl rfl (by simp) ?_
    simp[tW,oM,f2,b3,htp,aX,-List.length_flatMap]
    refine T.go' aa ?_
    simp[hC,wi]
    refine⟨al.length-(i+1),by omega,?_⟩
    have tQ:=kB (vF E ⟨rn,ri⟩)
    refine ae.le (Le.trim [11,10,7,6,4,0,2] [0,3,4,5,6,28] 29 (by simp only[cO,lS,yW,jG];simp[-List.all_eq_true,-List.all_flatMap,af tE,af tP,af tQ]) (by omega)) ?_
    simp
    refine ae.le (Le.na 28 7 rfl rfl (by omega) (by simp) (by simp) (by simp only[cO,lS,yW,jG];simp[-List.all_eq_true,-List.all_flatMap,a6 tE,a6 tP,a6 tQ])) ?_
    simp only[cO,lS,yW,jG]
    simp[aY tE,aY tP,aY tQ]
    refine ae.trim [11,10,7,6,4,0,2] [0,3,4,5,6,7] 8 (by simp[-List.all_eq_true,-List.all_flatMap,af tE,af tP,af tQ]) (by omega) ⟨i+1,rfl,by omega,?_⟩
    rw[hI,hP]
    simp[jG,tW,cS,eH,cO,lS,nI,yW]
   | exp e=>
    have hb:=ju p E k st cl sl hE hl n 2 e haw.2
    have hqm:q.mutex=false:=haw.1
    simp only[ni,bP e,j5,List.cons_append,List.nil_append] at hdr
    rw[bP e] at hb
    refine T.seq (T.go' aa ?_)
    simp[hC,hil,hdr,nI]
    refine T.seq (T.seq ?_)
    refine T.rx aa follows [0,1,2,3,4,5,6,7] [] (by kernel_rfl) ?_
    simp[hC,hil2,hdq,jL,hqm]
    refine T.cond (b:=false) rfl (T.skip ?_)
    simp
    refine T.seq (T.go' aa ?_)
    simp[hC]
    refine T.cond (b:=false) rfl ?_
    simp
    refine T.rx aa follows [0,1,2,3,4,5,6,7,8,9,10] [(1,6),(1,7)] (by kernel_rfl) ?_
    simp[hC]
    refine RX.cr [0] [] 3 (hb) rfl (by simp) rfl rfl rfl rfl (by simp) (by first | rfl | simp[aC,aG,aD,aT,-List.all_eq_true]) (by first | rfl | simp[au,ints]) rfl rfl rfl (by simp) ?_
    simp[jG,bA,f1,b1,hte,aX,-List.length_flatMap]
    refine T.go' aa ?_
    simp[hC,wi]
    refine⟨al.length-(i+1),by omega,?_⟩
    have tQ:=ag (dB E e)
    refine ae.le (Le.trim [11,10,7,6,4,0,2] [0,3,4,5,28,7] 29 (by simp only[cO,lS,yW,tW];simp[-List.all_eq_true,-List.all_flatMap,af tE,af tP,af tQ]) (by omega)) ?_
    simp
    refine ae.le (Le.na 28 6 rfl rfl (by omega) (by simp) (by simp) (by simp only[cO,lS,yW,tW];simp[-List.all_eq_true,-List.all_flatMap,a6 tE,a6 tP,a6 tQ])) ?_
    simp only[cO,lS,yW,tW]
    simp[aY tE,aY tP,aY tQ]
    refine ae.trim [11,10,7,6,4,0,2] [0,3,4,5,6,7] 8 (by simp[-List.all_eq_true,-List.all_flatMap,af tE,af tP,af tQ]) (by omega) ⟨i+1,rfl,by omega,?_⟩
    rw[hI,hP]
    simp[jG,tW,cS,eH,cO,lS,nI,yW]
  ·have hie:i=al.length:=by omega
   have hil2:¬ i<gp.length:=by omega
   refine T.seq (T.seq (T.go' aa ?_))
   simp[hC,hil2]
   refine T.cond (b:=false) rfl ?_
   simp
   refine T.exit ?_
   simp
   refine T.seq (T.go' aa ?_)
   simp[hC]
   refine T.ret ?_
   rw[hie,List.take_length]
   have tE:=ay ag (cS E al)
   have tP:=ay kB (eH E al)
   have x1:((cS E al).flatMap bB).take ((cS E al).length*4)=(cS E al).flatMap bB:=List.take_of_length_le (by rw[bu (f:=bB) (n:=4) bA];exact Nat.le_refl _)
   have x2:((eH E al).flatMap nO).take ((eH E al).length*3)=(eH E al).flatMap nO:=List.take_of_length_le (by rw[bu (f:=nO) (n:=3) oM];exact Nat.le_refl _)
   generalize cS E al=NI at tE x1
   generalize eH E al=NP at tP x2
   refine ae.le (Le.trim [6] [0,4,6,7] 8 (by simp only[cO,lS,jG,tW];simp[-List.all_eq_true,-List.all_flatMap,af tE,af tP,yW]) (by omega)) ?_
   simp
   refine ae.le (Le.eM (o:=6) rfl tE) ?_
   simp[jG,tW,x1,cw tP]
   refine ae.le (Le.eM (o:=7) rfl tP) ?_
   simp[x2]
   refine ae.le (Le.nz [] [4]) ?_
   simp[yW]
   refine ae.le (Le.eM (o:=4) rfl (by simp[trees,tree])) ?_
   simp[cO,lS]
   refine ae.trim [6] [0] 3 (by simp) (by omega) ⟨_,?_,rfl,?_,rfl⟩
   ·simp[dt,bB,eS,qp,hopg]
   ·simp
end Go.Proofs.YtmnglemlimfpbaaGreat
