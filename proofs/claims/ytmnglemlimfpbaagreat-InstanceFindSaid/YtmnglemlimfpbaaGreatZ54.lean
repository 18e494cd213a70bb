/- The law InstanceFind. | Arguments as the contracts read them: a struct of an integer and a slice of integers. No function of the program is mentioned here. -/
import Derived.Test.YtmnglemlimfpbaaGreatZ53
import Derived.Test.YtmnglemlimfpbaaGreatZ45
namespace Go.Proofs.YtmnglemlimfpbaaGreat
open Go.Can Go.bg
theorem c8_ok (l:List Int)(hl:l.length≤9223372036854775807)(x p:Int)(ls:List Int)(hp:nw p=true)(hls:∀ n∈ls,nw n=true):ah Tryz.prog 8 [ints l,I x,.agg [I p,ints ls]] (.bool true):=by
 have hun:=oz l hl
 have huv:=kG l
 generalize iT (ss l)=u at hun huv
 obtain⟨hI,hpos⟩:=kR huv
 have hlen:=dG huv hI.nd hI.v
 generalize gE u=c at hun hI hpos hlen
 obtain⟨i,hi,hil⟩:∃ i:Nat,x % (c.is.length:Int)=i∧i<c.is.length:=by
  have h1:=Int.emod_nonneg x (show (c.is.length:Int)≠0 by omega)
  have h2:=Int.emod_lt_of_pos x (show (0:Int)<c.is.length by omega)
  exact⟨(x % c.is.length).toNat,by omega,by omega⟩
 obtain⟨y,hy⟩:∃ y,c.is[i]? = some y:=⟨_,List.getElem?_eq_getElem hil⟩
 have hyv:=hI.v y (List.mem_of_getElem? hy)
 have tun:=dD u
 have tis:=ay aO c.is
 have tcs:=eg c.calls
 have trs:=aN c.roots
 have hw:=kA x c.is.length (by omega) (by omega)
 rw[hi] at hw
 have hiv:∀ z∈c.is,z.aE.length≤6∧nw z.proc=true∧∀ n∈z.aE,nw (n:Int)=true:=fun z hz=>by
  have h1:=hI.v z hz
  have h2:=oV huv h1
  obtain⟨⟨q,hq,_⟩,hm⟩:=h1
  have h3:=(List.getElem?_eq_some_iff.1 hq).1
  have h4:=huv.np
  have h5:=huv.nm
  have hin:∀ n:Nat,n<10→nw (n:Int)=true:=fun n hn=>by simp only[nw,Bool.and_eq_true,decide_eq_true_eq];omega
  exact⟨by omega,hin _ (by omega),fun n hn=>hin _ (by have:=hm n hn;omega)⟩
 have hfi:=fun p ls hp hls=>sJ c.is (by omega) hiv (.ax (c.calls.map ints) c.calls.length) (aZ c.roots) rfl trs p ls hp hls
 have hfr:=fun p ls=>Dv c.is (by omega) (fun z hz=>by have:=(hiv z hz).1;omega) (.ax (c.calls.map ints) c.calls.length) (aZ c.roots) rfl trs p ls
 generalize ss l=pg at hun
 have tl:trees [ints l]=true:=by simp[ints,trees,tree]
 have hdi:=aV (f:=cg) (n:=2) dh hy
 have hyl:=oV huv hyv
 refine ah.bl aa Tryz.func8 rfl (by kernel_rfl) (by simp[Tryz.ntmps8]) rfl fun C hC hC0=>?_
 rw[Tryz.ntmps8] at hC
 refine T.seq (T.go' aa ?_)
 simp[hC]
 refine T.seq (T.go' aa ?_)
 simp[hC]
 refine TL.call (by simp[hC]) rfl rfl (aI.of rfl tl hun) (TL.go' aa ?_)
 simp only[qX,dq,gq,de,mv,iL,ints]
 simp[hC]
 refine T.seq (T.go' aa ?_)
 simp[hC]
 refine TL.call (by simp[hC]) rfl rfl (aI.of rfl rfl hw) (TL.go' aa ?_)
 simp[hC]
 refine T.seq (T.go' aa ?_)
 simp[hC,hil,hdi,cg]
 have tun2:=tun
 simp only[de,ints] at tun2
 have tls:trees (ls.map qP)=true:=ef ls
 refine T.le (Le.trim [11,10,9,5] [4,3,0] 5 (by simp[-List.all_eq_true,-List.all_flatMap,aB 5 _ trs,aB 5 _ (aN y.aE)]) (by omega)) ?_
 simp
 have bd1:y.aE.length*8≤140737488355328:=by omega
 have bd2:(y.aE.length+1)*8≤140737488355328:=by omega
 refine T.seq (T.rx aa follows [0,1,2,3,4,5,6,7,8,9,10] [(1,2),(1,5),(1,6),(1,7),(1,9),(2,4),(2,6),(2,9),(4,6),(4,9),(5,6),(5,9),(6,9),(7,9)] (by kernel_rfl) ?_)
 simp[hC,aZ,bd1,bd2,aX]
 have tyl:=ch y.aE
 have tY:trees (y.aE.map (fun n:Nat=>I n)++[I 0])=true:=by rw[bh,tyl];rfl
 have tkY:List.take (y.aE.length+1) (y.aE.map (fun n:Nat=>I n)++[I 0])=y.aE.map (fun n:Nat=>I n)++[I 0]:=List.take_of_length_le (by simp)
 have trs2:=trs
 simp only[aZ] at trs2
 refine T.le (Le.trim [12,11,10,9,5] [14,17,4,3,0] 18 (by simp[-List.all_eq_true,-List.all_flatMap,af tY]) (by omega)) ?_
 simp
 refine T.le (Le.eM (o:=17) rfl tY) ?_
 simp[tkY]
 have hiy:=hiv y (List.mem_of_getElem? hy)
 have hyls:∀ n∈(y.aE.map fun n:Nat=>(n:Int)),nw n=true:=fun n hn=>by
  obtain⟨m,hm,rfl⟩:=List.mem_map.1 hn
  exact hiy.2.2 m hm
 have h1:=hfi y.proc (y.aE.map fun n:Nat=>(n:Int)) hiy.2.1 hyls
 have hfy:gN c.is y.proc (y.aE.map fun n:Nat=>(n:Int)) 0=i:=by
  have:=oZ y c.is 0
  rw[if_pos (List.mem_of_getElem? hy),AK hI.nd hy] at this
  simpa using this
 rw[← en,hfy] at h1
 have hzi:ints (y.aE.map (fun n:Nat=>(n:Int))++[0])=.ax (y.aE.map (fun n:Nat=>I n)++[I 0]) (y.aE.length+1):=by simp[ints]
 have h2:=hfi y.proc (y.aE.map (fun n:Nat=>(n:Int))++[0]) hiy.2.1 (fun n hn=>by
  rcases List.mem_append.1 hn with hn | hn
  ·exact hyls n hn
  ·rw[List.mem_singleton.1 hn];rfl)
 have h3:=hfr y.proc (y.aE.map (fun n:Nat=>(n:Int))++[0])
 rw[hzi] at h2 h3
 have h4:=hfi p ls hp hls
 have h5:=hfr p ls
 generalize gN c.is y.proc (y.aE.map (fun n:Nat=>(n:Int))++[0]) 0=f1 at h2 h3
 generalize gN c.is p ls 0=f2 at h4 h5
 simp only[aZ,ints] at h1 h2 h3 h4 h5
 have ta1:trees [.agg [.ax (c.is.flatMap cg) c.is.length,.ax (c.calls.map ints) c.calls.length,.ax (c.roots.map fun n:Nat=>I n) c.roots.length],.agg [I y.proc,.ax (y.aE.map fun n:Nat=>I n) y.aE.length]]=true:=by
  simp only[trees,tree,Bool.and_self]
 have ta2:trees [.agg [.ax (c.is.flatMap cg) c.is.length,.ax (c.calls.map ints) c.calls.length,.ax (c.roots.map fun n:Nat=>I n) c.roots.length],.agg [I y.proc,.ax (y.aE.map (fun n:Nat=>I n)++[I 0]) (y.aE.length+1)]]=true:=by
  simp only[trees,tree,Bool.and_self]
 have ta3:trees [.agg [.ax (c.is.flatMap cg) c.is.length,.ax (c.calls.map ints) c.calls.length,.ax (c.roots.map fun n:Nat=>I n) c.roots.length],.agg [I p,.ax (ls.map qP) ls.length]]=true:=by
  simp only[trees,tree,Bool.and_self]
 refine T.seq (T.rx aa follows [0,1,3,2,4,5,6,7,9,10,8,11,12,13,14,15,16,18,19,17,20,21,22,23,24,25,26] [(9,8),(10,8),(18,17),(19,17)] (by kernel_rfl) ?_)
 simp[hC]
 refine RX.call rfl rfl rfl rfl rfl ta1 h1 ?_
 simp
 refine RX.call rfl rfl rfl rfl rfl ta2 h2 ?_
 simp
 refine RX.call rfl rfl rfl rfl rfl ta2 h3 ?_
 simp
 refine RX.call rfl rfl rfl rfl rfl ta3 h4 ?_
 simp
 refine RX.call rfl rfl rfl rfl rfl ta3 h5 ?_
 simp
 refine RX.call rfl rfl rfl rfl rfl rfl yM ?_
 simp
 refine T.ret ?_
 refine ae.here ?_
 simp[Tryz.results8]
end Go.Proofs.YtmnglemlimfpbaaGreat
namespace Go.Can
open Go.ChangeShapes Go.WideShapes Go.ChangeAt Go.RowKit
section
variable {P:Program}{H:Type}{enc:TypeId×Value→H}{w:World}
theorem Eh {n:Int}(h:(Lit.int .i64 n).wf=true):nw n=true:=by
 simp only[Lit.wf,show IntKind.i64.min=-9223372036854775808 from rfl,show IntKind.i64.max=9223372036854775807 from rfl,Bool.and_eq_true,decide_eq_true_eq] at h
 simp only[nw,Bool.and_eq_true,decide_eq_true_eq]
 omega
theorem xL {F:Nat→Prop}(hF:∀ b,¬ F b){t ti ts:TypeId}{fs:Array Field}{r:Reach}{b0:Nat}{v:Value}{d:DataW H}{ps:List MemPlace}(ht:P.underlying t=some (.struct fs))(hone:Go.Deep.oneCellFields P fs=true)(hty:fs.toList.map (·.type)=[ti,ts])
  (hi:P.underlying ti=some (.int .i64)) (hci:P.cellsOf ti=1) (hs:P.underlying ts=some (.slice ti)) (hct:P.cellsOf t=2)
  (hval:Value.okWide P w r b0 t v) (h:DataW.Trod enc P w 0 (fun _=>true) true t v d ps):∃ (a:Int) (l:List Int),bM w F (.agg [.int .i64 a,ints l]) v∧nw a=true∧∀ n∈l,nw n=true:=by
 obtain⟨cs,rfl,hsz⟩:=okWide_struct ht hval
 obtain⟨fuel,hf⟩:=h
 simp only[Value.cells] at hf
 obtain⟨xs,n,_,_,_,hxl,hfi⟩:=DataW.trod_struct ht hf
 rw[hct] at hsz
 have hone':=Go.Deep.hone_of hone
 have hlen:fs.size=2:=by
  have:=congrArg List.length hty
  simpa using this
 have field:∀ i (hi5:i<2) q,[ti,ts][i]? = some q→∃ y,DataW.trod enc P w 0 (fun _=>true) true n q [cs.toList.getD i undef]=some y:=fun i hi5 q hq=>by
  have hlt:i<fs.size:=by omega
  have hfs:fs[i]? = some fs[i]:=by simp[hlt]
  have hq':fs[i].type=q:=by
   rw[← hty] at hq
   simp[hlt] at hq
   exact hq
  obtain⟨ho,hc1⟩:=hone' i fs[i] hfs
  have g:=hfi i fs[i] hfs
  rw[ho,hc1,Go.Deep.take1_drop cs.toList i undef (by simp;omega),hq'] at g
  have hx:i<xs.length:=by omega
  exact⟨xs[i],by rw[g];simp[hx]⟩
 obtain⟨y0,hy0⟩:=field 0 (by omega) ti rfl
 obtain⟨a,ea,_,wa⟩:=DataW.trod_int hi hy0
 simp only[List.cons.injEq,and_true] at ea
 obtain⟨y,hy⟩:=field 1 (by omega) ts rfl
 have hsl:∃ l,bM w F (ints l) (cs.toList.getD 1 undef)∧∀ n∈l,nw n=true:=by
  rcases open_ints hs hi hci hy with ⟨hcs,_⟩ | ⟨a',len,cap',zs,hcs,_,hl,hm,hz,_,hcell,hwf⟩
  ·simp only[List.cons.injEq,and_true] at hcs
   rw[hcs]
   exact⟨[],yS _ rfl,fun n hn=>by cases hn⟩
  ·simp only[List.cons.injEq,and_true] at hcs
   rw[hcs]
   simp only[if_true] at hz
   have hlen:(zs.take len).length=len:=by simp;omega
   refine⟨zs.take len,?_,fun n hn=>Eh (hwf n (List.mem_of_mem_take hn))⟩
   unfold ints
   rw[hlen]
   simp only[bM]
   refine⟨_,cap',rfl,hl,hm,.inr ⟨a',rfl,zB hF _ _ (Ay _ (fun _=>rfl) _) fun i c hi=>?_⟩⟩
   rw[List.getElem?_map] at hi
   obtain⟨z,hz1,rfl⟩:=Option.map_eq_some_iff.1 hi
   rw[List.getElem?_take] at hz1
   split at hz1
   ·rename_i hin
    have hlt:i<zs.length:=by omega
    refine⟨_,hcell i hlt,?_⟩
    have:zs.getD i 0=z:=by simp[List.getD,hz1]
    rw[this]
    simp[bM]
   ·cases hz1
 obtain⟨l,hl,hw⟩:=hsl
 have hcs:cs=#[.int .i64 a,cs.toList.getD 1 undef]:=by
  have h5:cs.toList.length=2:=by simpa using hsz
  apply Array.ext'
  revert h5 ea
  generalize cs.toList=q
  intro ea h5
  match q,h5 with
  | [x0,x1],_=>
   simp only[List.getD_cons_zero,List.getD_cons_succ] at ea ⊢
   rw[ea]
 refine⟨a,l,?_,Eh wa,hw⟩
 rw[hcs]
 simp only[bM,bx]
 exact⟨[_,_],rfl,⟨_,_,rfl,rfl,_,_,rfl,hl,rfl⟩,by simp[one,ints]⟩
end
end Go.Can
