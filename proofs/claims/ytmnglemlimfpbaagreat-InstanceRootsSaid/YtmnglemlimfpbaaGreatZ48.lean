/- Sites, SameClosure. | The library's contracts of slices.Sort and slices.Compact on integers, as steps of a walk. No function of the program is mentioned here. | The library's sort and compaction of integers lie in this program as the kit knows them. | What a closure is: the calls, where instances come from, the roots. No function of the program is mentioned here. -/
import Derived.Test.YtmnglemlimfpbaaGreatZ47
import Derived.Test.YtmnglemlimfpbaaGreatZ46
import Derived.Shelf.Sort.Plain
import Derived.Shelf.Slices.CompactI
import Derived.Test.YtmnglemlimfpbaaGreatZ18
import Derived.Test.YtmnglemlimfpbaaGreatZ43
namespace Go.Proofs.YtmnglemlimfpbaaGreat
open Go.Can Go.bg
def J22 (u:Un)(l:List Is)(n:Nat)(s:St):Prop:=∃ i:Nat,n=l.length-i∧i≤l.length∧
 s=⟨[(11,I i),(10,I l.length),(9,.ax (l.flatMap cg) l.length),(5,I (dv u (l.take i))),(2,.aq 0 0)],[(0,⟨30,0,de u⟩)],1⟩
def J23 (u:Un)(cl:List CV)(l:List Is)(n:Nat)(s:St):Prop:=∃ i:Nat,n=l.length-i∧i≤l.length∧
 s=⟨[(6,I i),(5,I (dv u (l.take i))),(3,.aq 1 0),(2,.aq 0 0)],[(1,⟨34,0,cl⟩),(0,⟨30,0,de u⟩)],2⟩
theorem rN (u:Un)(l:List Is){i:Nat}{x:Is}(h:l[i]? = some x):dv u (l.take (i+1))=dv u (l.take i)+(aM u x).length:=by
 rw[List.take_add_one,h]
 simp[dv]
theorem xA {u:Un}(hu:ox u){l:List Is}(hn:l.Nodup)(hv:∀ x∈l,qh u x)(i:Nat):dv u (l.take i)≤7105:=
 k9 hu (hn.sublist (List.take_sublist i l)) fun x hx=>hv x (List.mem_of_mem_take hx)
theorem u0 (u:Un)(hu:ox u)(c:Cl)(hI:lR u c.is):ah Tryz.prog 22 [gq u,mv c] (I (dv u c.is)):=by
 have tun:=dD u
 have tis:=ay aO c.is
 have hl:=dG hu hI.nd hI.v
 refine ah.bl aa Tryz.func22 rfl (by kernel_rfl) (by simp[Tryz.ntmps22]) rfl fun C hC hC0=>?_
 rw[Tryz.ntmps22] at hC
 simp only[gq,de,mv,iL,ints]
 simp only[de,ints] at tun
 refine T.seq (T.go' aa ?_)
 simp[hC]
 refine T.seq (T.go' aa ?_)
 simp[hC]
 refine T.seq (T.seq (T.go' aa ?_))
 simp[hC]
 refine T.block ?_
 refine T.aS (J22 u c.is) (n:=c.is.length) ?_ ?_
 ·refine ae.trim [11,10,9,5,2] [0] 1 (by simp[-List.all_eq_true,-List.all_flatMap,af tun]) (by omega) ⟨0,by omega,by omega,?_⟩
  simp[de,ints,dv]
 ·rintro n s ⟨i,rfl,hi,rfl⟩
  simp only[de,ints]
  by_cases hil:i<c.is.length
  ·obtain⟨x,hx⟩:∃ x,c.is[i]? = some x:=⟨_,List.getElem?_eq_getElem hil⟩
   obtain⟨⟨pq,hpq,hll⟩,hlm⟩:=hI.v x (List.mem_of_getElem? hx)
   have hcode:aM u x=pq.code:=by simp only[aM,hpq]
   have hpl:=(List.getElem?_eq_some_iff.1 hpq).1
   have hdr:=bG (f:=kX) (n:=5) eU hpq 4 (by omega)
   have hdi:=aV (f:=cg) (n:=2) dh hx
   have wi:=db ((i:Int)+1) (by omega) (by omega)
   have hst:=rN u c.is hx
   have hsl:=xA hu hI.nd hI.v (i+1)
   rw[hcode] at hst
   have ws:=db ((dv u (c.is.take i):Int)+pq.code.length) (by omega) (by omega)
   refine T.seq (T.go' aa ?_)
   simp[hC,hil]
   refine T.seq (T.cond (b:=true) rfl (T.skip ?_))
   simp
   refine T.seq (T.block ?_)
   refine T.seq (T.go' aa ?_)
   simp[hC,hil,hdi,cg]
   refine T.go' aa ?_
   simp[hC,hpl,hdr,kX,ws]
   refine T.go' aa ?_
   simp[hC,wi]
   refine⟨c.is.length-(i+1),by omega,ae.trim [11,10,9,5,2] [0] 1 (by simp[-List.all_eq_true,-List.all_flatMap,af tun]) (by omega) ⟨i+1,rfl,by omega,?_⟩⟩
   rw[hst]
   simp[de,ints]
  ·have hie:i=c.is.length:=by omega
   subst hie
   rw[List.take_length]
   refine T.seq (T.go' aa ?_)
   simp[hC]
   refine T.seq (T.cond (b:=false) rfl ?_)
   simp
   refine T.exit ?_
   simp
   refine T.seq (T.go' aa ?_)
   simp[hC]
   refine T.ret ?_
   refine ae.here ?_
   simp[Tryz.results22]
theorem BH (u:Un)(hu:ox u)(c:Cl)(hI:lR u c.is):ah Tryz.prog 23 [gq u,mv c] (I (dv u c.is)):=by
 have tun:=dD u
 have tis:=ay aO c.is
 have tcs:=eg c.calls
 have trs:=aN c.roots
 have hl:=dG hu hI.nd hI.v
 refine ah.bl aa Tryz.func23 rfl (by kernel_rfl) (by simp[Tryz.ntmps23]) rfl fun C hC hC0=>?_
 rw[Tryz.ntmps23] at hC
 simp only[gq,de,mv,iL,ints]
 simp only[de,ints] at tun
 refine T.seq (T.go' aa ?_)
 simp[hC]
 refine T.seq (T.go' aa ?_)
 simp[hC]
 refine T.seq (T.seq (T.go' aa ?_))
 simp[hC]
 refine T.block ?_
 refine T.aS (J23 u (iL c) c.is) (n:=c.is.length) ?_ ?_
 ·refine ae.trim [6,5,3,2] [1,0] 2 (by simp[-List.all_eq_true,-List.all_flatMap,af tun,aB 2 _ trs]) (by omega) ⟨0,by omega,by omega,?_⟩
  simp[de,ints,dv,iL]
 ·rintro n s ⟨i,rfl,hi,rfl⟩
  simp only[de,ints,iL]
  by_cases hil:i<c.is.length
  ·obtain⟨x,hx⟩:∃ x,c.is[i]? = some x:=⟨_,List.getElem?_eq_getElem hil⟩
   obtain⟨⟨pq,hpq,hll⟩,hlm⟩:=hI.v x (List.mem_of_getElem? hx)
   have hcode:aM u x=pq.code:=by simp only[aM,hpq]
   have hpl:=(List.getElem?_eq_some_iff.1 hpq).1
   have hdr:=bG (f:=kX) (n:=5) eU hpq 4 (by omega)
   have hdi:=aV (f:=cg) (n:=2) dh hx
   have wi:=db ((i:Int)+1) (by omega) (by omega)
   have hst:=rN u c.is hx
   have hsl:=xA hu hI.nd hI.v (i+1)
   rw[hcode] at hst
   have ws:=db ((dv u (c.is.take i):Int)+pq.code.length) (by omega) (by omega)
   refine T.seq (T.seq (T.go' aa ?_))
   simp[hC,hil]
   refine T.cond (b:=true) rfl (T.skip ?_)
   simp
   refine T.seq (T.block ?_)
   refine T.rx aa follows [0,1,2,3,4,5,6,7,8,9,10,11,12,13,14] [] (by kernel_rfl) ?_
   simp[hC,hil,hdi,cg,hpl,hdr,kX,ws]
   refine T.go' aa ?_
   simp[hC,wi]
   refine⟨c.is.length-(i+1),by omega,ae.trim [6,5,3,2] [1,0] 2 (by simp[-List.all_eq_true,-List.all_flatMap,af tun,aB 2 _ trs]) (by omega) ⟨i+1,rfl,by omega,?_⟩⟩
   rw[hst]
   simp[de,ints]
  ·have hie:i=c.is.length:=by omega
   subst hie
   rw[List.take_length]
   refine T.seq (T.seq (T.go' aa ?_))
   simp[hC]
   refine T.cond (b:=false) rfl ?_
   simp
   refine T.exit ?_
   simp
   refine T.seq (T.go' aa ?_)
   simp[hC]
   refine T.ret ?_
   refine ae.here ?_
   simp[Tryz.results23]
theorem zo {l:List (List Int)}{i:Nat}{d:List Int}(h:l[i]? = some d):(l.map ints).drop i=ints d::(l.drop (i+1)).map ints:=by
 obtain⟨h1,h2⟩:=List.getElem?_eq_some_iff.1 h
 rw[← List.map_drop,List.drop_eq_getElem_cons h1,h2,List.map_cons]
def J21 (cl:List CV)(n:Nat)(m:Nat)(s:St):Prop:=∃ i:Nat,m=n-i∧i≤n∧
 s=⟨[(5,I i),(3,.aq 1 0),(2,.aq 0 0)],[(1,⟨34,0,cl⟩),(0,⟨34,0,cl⟩)],2⟩
def J21b (cl:List CV)(n:Nat)(m:Nat)(s:St):Prop:=∃ i:Nat,m=n-i∧i≤n∧
 s=⟨[(6,I i),(3,.aq 1 0),(2,.aq 0 0)],[(1,⟨34,0,cl⟩),(0,⟨34,0,cl⟩)],2⟩
theorem FX (c:Cl)(hl:c.is.length≤1000)(hc:c.calls.length≤1000)(hcl:∀ d∈c.calls,d.length≤100000)(hr:c.roots.length≤100000)(hlk:∀ x∈c.is,x.aE.length≤1000):ah Tryz.prog 21 [mv c,mv c] (.bool true):=by
 have tis:=ay aO c.is
 have tcs:=eg c.calls
 have trs:=aN c.roots
 have hsr:=e9 (c.roots.map fun n:Nat=>(n:Int)) (c.roots.map fun n:Nat=>(n:Int)) (by simp;omega)
 rw[decide_eq_true rfl,← en] at hsr
 have targ:trees [aZ c.roots,aZ c.roots]=true:=by simp only[trees,trs,Bool.and_self]
 refine ah.bl aa Tryz.func21 rfl (by kernel_rfl) (by simp[Tryz.ntmps21]) rfl fun C hC hC0=>?_
 rw[Tryz.ntmps21] at hC
 simp only[mv,iL]
 refine T.seq (T.go' aa ?_)
 simp[hC]
 refine T.seq (T.seq (T.go' aa ?_))
 simp[hC]
 refine TL.bT (by simp[hC]) rfl rfl rfl rfl (aI.of rfl targ hsr) (TL.go' aa ?_)
 simp[hC]
 refine T.cond (b:=false) rfl (T.skip ?_)
 simp
 refine T.seq (T.seq (T.go' aa ?_))
 simp[hC]
 refine T.block ?_
 refine T.aS (J21 (iL c) c.is.length) (n:=c.is.length) ?_ ?_
 ·refine ae.trim [5,3,2] [1,0] 2 (by simp[-List.all_eq_true,-List.all_flatMap,aB 2 _ trs]) (by omega) ⟨0,by omega,by omega,?_⟩
  simp[iL]
 ·rintro n s ⟨i,rfl,hi,rfl⟩
  simp only[iL]
  by_cases hil:i<c.is.length
  ·obtain⟨x,hx⟩:∃ x,c.is[i]? = some x:=⟨_,List.getElem?_eq_getElem hil⟩
   have hdi:=aV (f:=cg) (n:=2) dh hx
   have wi:=db ((i:Int)+1) (by omega) (by omega)
   have hlx:=hlk x (List.mem_of_getElem? hx)
   have hsx:=e9 (x.aE.map fun n:Nat=>(n:Int)) (x.aE.map fun n:Nat=>(n:Int)) (by simp;omega)
   rw[decide_eq_true rfl,← en] at hsx
   have targx:trees [aZ x.aE,aZ x.aE]=true:=by simp only[trees,aN,Bool.and_self]
   refine T.seq (T.seq (T.go' aa ?_))
   simp[hC,hil]
   refine T.cond (b:=true) rfl (T.skip ?_)
   simp
   refine T.seq (T.block ?_)
   refine T.seq (T.rx aa follows [0,1,2,3,4,5,6,7,8,9,10,11,12,13,14,15,16,17,18,19,20,21,22,23,24,25,26,27,28] [] (by kernel_rfl) ?_)
   simp[hC,hil,hdi,cg]
   refine RX.call rfl rfl rfl rfl rfl targx hsx ?_
   simp
   refine T.cond (b:=false) rfl (T.skip ?_)
   simp
   refine T.go' aa ?_
   simp[hC,wi]
   refine⟨c.is.length-(i+1),by omega,ae.trim [5,3,2] [1,0] 2 (by simp[-List.all_eq_true,-List.all_flatMap,aB 2 _ trs]) (by omega) ⟨i+1,rfl,by omega,?_⟩⟩
   simp
  ·have hie:i=c.is.length:=by omega
   subst hie
   refine T.seq (T.seq (T.go' aa ?_))
   simp[hC]
   refine T.cond (b:=false) rfl ?_
   simp
   refine T.exit ?_
   simp
   refine T.seq (T.seq (T.go' aa ?_))
   simp[hC]
   refine T.block ?_
   refine T.aS (J21b (iL c) c.calls.length) (n:=c.calls.length) ?_ ?_
   ·refine ae.trim [6,3,2] [1,0] 2 (by simp[-List.all_eq_true,-List.all_flatMap,aB 2 _ trs]) (by omega) ⟨0,by omega,by omega,?_⟩
    simp[iL]
   ·rintro n s ⟨i,rfl,hi2,rfl⟩
    simp only[iL]
    by_cases hic:i<c.calls.length
    ·obtain⟨d,hd⟩:∃ d,c.calls[i]? = some d:=⟨_,List.getElem?_eq_getElem hic⟩
     have hdd:=zo hd
     have wi:=db ((i:Int)+1) (by omega) (by omega)
     have hld:=hcl d (List.mem_of_getElem? hd)
     have hsd:=e9 d d (by omega)
     rw[decide_eq_true rfl] at hsd
     have targd:trees [ints d,ints d]=true:=by simp only[trees,fv,Bool.and_self]
     refine T.seq (T.seq (T.go' aa ?_))
     simp[hC,hic]
     refine T.cond (b:=true) rfl (T.skip ?_)
     simp
     refine T.seq (T.block ?_)
     refine T.seq (T.rx aa follows [0,1,2,3,4,5,6,7,8,9,10,11] [] (by kernel_rfl) ?_)
     simp[hC,hic,hdd]
     refine RX.call rfl rfl rfl rfl rfl targd hsd ?_
     simp
     refine T.cond (b:=false) rfl (T.skip ?_)
     simp
     refine T.go' aa ?_
     simp[hC,wi]
     refine⟨c.calls.length-(i+1),by omega,ae.trim [6,3,2] [1,0] 2 (by simp[-List.all_eq_true,-List.all_flatMap,aB 2 _ trs]) (by omega) ⟨i+1,rfl,by omega,?_⟩⟩
     simp
    ·have hie:i=c.calls.length:=by omega
     subst hie
     refine T.seq (T.seq (T.go' aa ?_))
     simp[hC]
     refine T.cond (b:=false) rfl ?_
     simp
     refine T.exit ?_
     simp
     refine T.seq (T.go' aa ?_)
     simp[hC]
     refine T.ret ?_
     refine ae.here ?_
     simp[Tryz.results21]
end Go.Proofs.YtmnglemlimfpbaaGreat
namespace Go.Can
open Go.RowKit Go.Shelf
section
variable {P:Program}{C:Cx}{σ:Nat→Option OB}{s:St}{a:Act}{w:World}{ops:Array Oper}{aj:List (Nat×TI)}{ρ:Ren}
theorem Fm {F:Nat→Prop}(ds:List Int):aQ w F σ (ds.map fun n=>.int .i64 n) (ds.map (Value.int .i64)):=by
 induction ds with
 | nil=>rfl
 | cons d r ih=>
  simp only[List.map_cons,aQ]
  exact⟨_,_,rfl,dp _ _,ih⟩
theorem qF {F:Nat→Prop}:∀ (ds:List Int) (vs:List Value),aQ w F σ (ds.map fun n=>.int .i64 n) vs→vs=ds.map (Value.int .i64)
 | [],vs,h=>by simpa only[List.map_nil,aQ] using h
 | d::r,vs,h=>by
  simp only[List.map_cons,aQ] at h
  obtain⟨v,us,rfl,h1,h2⟩:=h
  rw[qF r us h2]
  simp only[VR] at h1
  rw[h1]
  rfl
theorem BV (ds:List Int):(ds.map fun n=>CV.int .i64 n).all one=true:=List.all_eq_true.2 fun x hx=>by
 obtain⟨n,_,rfl⟩:=List.mem_map.1 hx
 rfl
theorem aH.row (h:aH C σ s a w){q:Nat}{el:TypeId}{zs ds:List Int}{B:OB}{b:Nat}(ho:assoc s.heap q=Option.some ⟨el,1,zs.map fun n=>.int .i64 n⟩)(hB:σ q=Option.some B)(hb:B.gK=Option.some b)(hl:ds.length=zs.length){n:Nat}{os:Array Obj}{w':World}(hw:w'=Sort.grow (Sort.putRow (Value.int .i64) (Sort.ahead w n) b 0 ds.toArray) os) :
  aH C σ { s with heap:=ou s.heap q ⟨el,1,ds.map fun n=>.int .i64 n⟩ } a w':=by
 obtain⟨B',e1,e2,e3,e4,e5⟩:=h.obj q _ ho
 rw[hB] at e1;cases e1
 obtain⟨cur,k1,k2,k3,k4,k5,k6⟩:=e5 b hb
 simp only[List.length_map] at k5
 have hw1:=h.write ho hB hb (cs':=ds.map fun n=>.int .i64 n) (us':=ds.map (Value.int .i64)++cur.toList.drop zs.length) (by simp;omega) (by simp) (by
  have:List.take (ds.map fun n=>CV.int .i64 n).length (ds.map (Value.int .i64)++cur.toList.drop zs.length)=ds.map (Value.int .i64):=by
   rw[show (ds.map fun n=>CV.int .i64 n).length=(ds.map (Value.int .i64)).length by simp,List.take_left]
  rw[this]
  exact Fm ds) (BV ds)
 refine hw1.below ?_
 subst hw
 refine⟨rfl,rfl,rfl,by simp[Sort.grow,Sort.putRow,Sort.mapBlock,Sort.ahead],fun k hk=>?_⟩
 rw[size_setRow] at hk
 have hg:(Sort.grow (Sort.putRow (Value.int .i64) (Sort.ahead w n) b 0 ds.toArray) os).heap[k]? = (w.heap.modify b (Sort.onCells (Sort.putCells (Value.int .i64) 0 ds.toArray)))[k]?:=by
  simp only[Sort.grow,Sort.putRow,Sort.mapBlock,Sort.ahead]
  rw[Array.getElem?_append_left (by simpa using hk)]
 rw[hg,Array.getElem?_modify]
 by_cases hkb:b=k
 ·subst hkb
  rw[if_pos rfl,setRow_heap w b cur _ _ _ k1,k1]
  simp only[Option.map_some,Sort.onCells]
  congr 2
  apply Array.ext_getElem?
  intro i
  simp only[Sort.putCells,Array.getElem?_mapIdx,List.getElem?_toArray,List.size_toArray,Nat.zero_le,true_and,Nat.zero_add,Nat.sub_zero]
  by_cases hi:i<ds.length
  ·rw[List.getElem?_append_left (by simpa using hi)]
   have hic:i<cur.size:=by omega
   rw[Array.getElem?_eq_getElem hic]
   simp[hi]
  ·rw[List.getElem?_append_right (by simp;omega)]
   simp only[List.length_map,List.getElem?_drop,Array.getElem?_toList]
   rw[show zs.length+(i-ds.length)=i by omega]
   cases cur[i]?<;>simp[hi]
 ·rw[if_neg hkb,setRow_other w b k _ (fun e=>hkb e.symm)]
theorem aH.holds (h:aH C σ s a w){q:Nat}{el:TypeId}{zs:List Int}{B:OB}{b:Nat}(ho:assoc s.heap q=Option.some ⟨el,1,zs.map fun n=>.int .i64 n⟩)(hB:σ q=Option.some B)(hb:B.gK=Option.some b):Sort.Holds (Value.int .i64) w b 0 zs.toArray∧b<w.heap.size:=by
 obtain⟨B',e1,e2,e3,e4,e5⟩:=h.obj q _ ho
 rw[hB] at e1;cases e1
 obtain⟨cur,k1,k2,k3,k4,k5,k6⟩:=e5 b hb
 simp only[List.length_map] at k5 k6
 have hk:=qF zs _ k6
 refine⟨fun j hj=>?_,(Array.getElem?_eq_some_iff.1 k1).1⟩
 simp only[List.size_toArray] at hj
 rw[Nat.zero_add]
 constructor
 ·have h2:=congrArg (·[j]?) hk
  simp only[List.getElem?_take,if_pos hj,List.getElem?_map,List.getElem?_eq_getElem hj,Option.map_some,Array.getElem?_toList] at h2
  simp only[World.cell?,k1,h2]
  simp[hj]
 ·simp[World.frozen?,k1]
theorem GX {F:Nat→Prop}:VR w F σ (.df []) (.tuple #[]):=by
 simp only[VR]
 exact⟨[],rfl,rfl⟩
theorem enters_of {g : Nat} {fn : Func} (h : P.funcs[g]? = Option.some fn) (h1 : (fn.name == "runtime.NumGoroutine") = false) (h2 : fn.body.isNone = false) : Enters P g := ⟨fn, h, h1, h2⟩
theorem TL.sortI (L:Go.Proofs.Lays.n189 P ρ){o:Oper}{l:List Oper}{c:Call}{K:St→Prop}{q:Nat}{el:TypeId}{zs:List Int}(hen:Enters P (ρ.f 189))(hd:aW C.nt o.dst=true)(hg:bK ops s o=Option.some true)(ho:o.op=.call c)(hca:aK s c=Option.some (ρ.f 189,[.bw q 0 zs.length]))(hob:assoc s.heap q=Option.some ⟨el,1,zs.map fun n=>.int .i64 n⟩)(hz:0<zs.length)(hzl:zs.length<4611686018427387904)
  (hK:TL P C ops l (St.put ⟨s.env,ou s.heap q ⟨el,1,(zs.mergeSort fun x y=>decide (x≤y)).map fun n=>.int .i64 n⟩,s.nx⟩ o.dst (.df [])) K):TL P C ops (o::l) s K:=by
 intro a w Q hr hQ
 have hw:=dy hr hg
 obtain⟨σ,hr⟩:=hr
 unfold wpList
 rw[if_pos hw]
 refine .inl ?_
 obtain⟨vs,ent,hall⟩:=tF.value ho hca hen σ a w hr
 simp only[aQ,VR] at hall
 obtain⟨v,r,rfl,⟨B,hB,hv⟩,rfl⟩:=hall
 cases hblk:B.gK with
 | none=>rw[hblk] at hv;omega
 | some b=>
  rw[hblk] at hv
  obtain⟨cap,rfl,c1,c2,c3,c4⟩:=hv
  obtain⟨hH,hbl⟩:=hr.holds hob hB hblk
  unfold Oper.wp
  rw[ent]
  refine (Go.Proofs.Any.slices_Sort_int L b 0 cap zs w hH hbl hzl).mono fun e w' ⟨he,n,os,hw'⟩=>?_
  subst he
  refine hK _ w' Q ⟨σ,(hr.row hob hB hblk (by simp) hw').put ?_ GX⟩ hQ
  intro t e
  rw[hr.tm]
  rw[e] at hd
  simpa [aW] using hd
theorem TL.EX (L:Go.Proofs.Lays2.n20 P ρ){o:Oper}{l:List Oper}{c:Call}{K:St→Prop}{q:Nat}{el:TypeId}{zs:List Int}(hen:Enters P (ρ.f 20))(hd:aW C.nt o.dst=true)(hg:bK ops s o=Option.some true)(ho:o.op=.call c)(hca:aK s c=Option.some (ρ.f 20,[.bw q 0 zs.length]))(hob:assoc s.heap q=Option.some ⟨el,1,zs.map fun n=>.int .i64 n⟩)(hz:0<zs.length)(hzl:zs.length<4611686018427387904){ds:List Int}(hds:Lib.compactUpTo zs.toArray zs.toArray.size=ds)
  (hK:TL P C ops l (St.put ⟨s.env,ou s.heap q ⟨el,1,(ds++List.replicate (zs.length-ds.length) 0).map fun n=>.int .i64 n⟩,s.nx⟩ o.dst (.bw q 0 ds.length)) K):TL P C ops (o::l) s K:=by
 intro a w Q hr hQ
 have hw:=dy hr hg
 obtain⟨σ,hr⟩:=hr
 unfold wpList
 rw[if_pos hw]
 refine .inl ?_
 obtain⟨vs,ent,hall⟩:=tF.value ho hca hen σ a w hr
 simp only[aQ,VR] at hall
 obtain⟨v,r,rfl,⟨B,hB,hv⟩,rfl⟩:=hall
 cases hblk:B.gK with
 | none=>rw[hblk] at hv;omega
 | some b=>
  rw[hblk] at hv
  obtain⟨cap,rfl,c1,c2,c3,c4⟩:=hv
  obtain⟨hH,hbl⟩:=hr.holds hob hB hblk
  have hdl:ds.length≤zs.length:=by
   rw[← hds]
   simp only[Lib.compactUpTo,List.length_map,List.size_toArray]
   exact Nat.le_trans (List.length_filter_le _ _) (by simp)
  have hcall:=Go.Proofs.Any.slices_Compact_int_arr L b 0 cap zs.toArray w hH (by simp;omega) (by simpa using c1)
  rw[hds] at hcall
  simp only[List.size_toArray] at hcall
  unfold Oper.wp
  rw[ent]
  refine hcall.mono fun e w' ⟨he,n,hw'⟩=>?_
  subst he
  refine hK _ w' Q ⟨σ,(hr.row hob hB hblk (ds:=ds++List.replicate (zs.length-ds.length) 0) (by simp;omega) (n:=n) (os:=#[]) (by rw[Sort.grow_empty];exact hw')).put ?_ ?_⟩ hQ
  ·intro t e
   rw[hr.tm]
   rw[e] at hd
   simpa [aW] using hd
  ·simp only[VR]
   refine⟨B,hB,?_⟩
   rw[hblk]
   exact⟨cap,rfl,by omega,c2,c3,c4⟩
end
end Go.Can
namespace Go.Proofs.YtmnglemlimfpbaaGreat
open Go.Can
def xx:Go.Shelf.Ren:=⟨fun | 189=>50 | 125=>85 | 257=>84 | 128=>120 | 129=>121 | 294=>111 | 295=>112 | 296=>113 | 297=>114 | 298=>115 | 299=>116 | 216=>117 | 300=>118 | 301=>119 | 328=>144 | 329=>145 | 330=>146 | 331=>147 | 332=>148 | 215=>149 | 343=>159 | n=>n,fun | 28=>22 | 3=>3 | 46=>183 | 0=>0 | 51=>222 | 53=>224 | 4=>4 | 183=>215 | 182=>214 | 131=>180 | 5=>5 | 9=>9 | 218=>244 | 222=>248 | 228=>259 | 229=>52 | n=>n,fun | n=>n⟩
theorem srtI:Go.Proofs.Lays.n189 Tryz.prog xx:={
 mixed:=by kernel_rfl
 f125:=Tryz.func85.trans (congrArg some (by kernel_rfl))
 f128:=Tryz.func120.trans (congrArg some (by kernel_rfl))
 f129:=Tryz.func121.trans (congrArg some (by kernel_rfl))
 f189:=Tryz.func50.trans (congrArg some (by kernel_rfl))
 f215:=Tryz.func149.trans (congrArg some (by kernel_rfl))
 f216:=Tryz.func117.trans (congrArg some (by kernel_rfl))
 f257:=Tryz.func84.trans (congrArg some (by kernel_rfl))
 f294:=Tryz.func111.trans (congrArg some (by kernel_rfl))
 f295:=Tryz.func112.trans (congrArg some (by kernel_rfl))
 f296:=Tryz.func113.trans (congrArg some (by kernel_rfl))
 f297:=Tryz.func114.trans (congrArg some (by kernel_rfl))
 f298:=Tryz.func115.trans (congrArg some (by kernel_rfl))
 f299:=Tryz.func116.trans (congrArg some (by kernel_rfl))
 f300:=Tryz.func118.trans (congrArg some (by kernel_rfl))
 f301:=Tryz.func119.trans (congrArg some (by kernel_rfl))
 f328:=Tryz.func144.trans (congrArg some (by kernel_rfl))
 f329:=Tryz.func145.trans (congrArg some (by kernel_rfl))
 f330:=Tryz.func146.trans (congrArg some (by kernel_rfl))
 f331:=Tryz.func147.trans (congrArg some (by kernel_rfl))
 f332:=Tryz.func148.trans (congrArg some (by kernel_rfl))
 f343:=Tryz.func159.trans (congrArg some (by kernel_rfl))
 t0:=Tryz.underlying0
 a0:=Tryz.isAgg0
 z0:=Tryz.sizeOf0
 v0:=Tryz.zeroValue0
 t3:=Tryz.underlying3
 a3:=Tryz.isAgg3
 z3:=Tryz.sizeOf3
 v3:=Tryz.zeroValue3
 t4:=Tryz.underlying4
 a4:=Tryz.isAgg4
 z4:=Tryz.sizeOf4
 v4:=Tryz.zeroValue4
 t5:=Tryz.underlying5
 a5:=Tryz.isAgg5
 z5:=Tryz.sizeOf5
 v5:=Tryz.zeroValue5
 t9:=Tryz.underlying9
 a9:=Tryz.isAgg9
 z9:=Tryz.sizeOf9
 v9:=Tryz.zeroValue9
 t28:=Tryz.underlying22
 a28:=Tryz.isAgg22
 z28:=Tryz.sizeOf22
 v28:=Tryz.zeroValue22
 t46:=Tryz.underlying183
 a46:=Tryz.isAgg183
 z46:=Tryz.sizeOf183
 v46:=Tryz.zeroValue183
 t51:=Tryz.underlying222
 a51:=Tryz.isAgg222
 z51:=Tryz.sizeOf222
 v51:=Tryz.zeroValue222
 t53:=Tryz.underlying224
 a53:=Tryz.isAgg224
 z53:=Tryz.sizeOf224
 v53:=Tryz.zeroValue224
 t131:=Tryz.underlying180
 a131:=Tryz.isAgg180
 z131:=Tryz.sizeOf180
 v131:=Tryz.zeroValue180
 t182:=Tryz.underlying214
 a182:=Tryz.isAgg214
 z182:=Tryz.sizeOf214
 v182:=Tryz.zeroValue214
 t183:=Tryz.underlying215
 a183:=Tryz.isAgg215
 z183:=Tryz.sizeOf215
 v183:=Tryz.zeroValue215
 t218:=Tryz.underlying244
 a218:=Tryz.isAgg244
 z218:=Tryz.sizeOf244
 v218:=Tryz.zeroValue244
 t222:=Tryz.underlying248
 a222:=Tryz.isAgg248
 z222:=Tryz.sizeOf248
 v222:=Tryz.zeroValue248
 t228:=Tryz.underlying259
 a228:=Tryz.isAgg259
 z228:=Tryz.sizeOf259
 v228:=Tryz.zeroValue259
 t229:=Tryz.underlying52
 a229:=Tryz.isAgg52
 z229:=Tryz.sizeOf52
 v229:=Tryz.zeroValue52 }
def yG:Go.Shelf.Ren:=⟨fun | 20=>51 | n=>n,fun | 22=>22 | 3=>3 | 4=>4 | 0=>0 | n=>n,fun | n=>n⟩
theorem cmpI:Go.Proofs.Lays2.n20 Tryz.prog yG:={
 mixed:=by kernel_rfl
 f20:=Tryz.func51.trans (congrArg some (by kernel_rfl))
 t0:=Tryz.underlying0
 a0:=Tryz.isAgg0
 z0:=Tryz.sizeOf0
 v0:=Tryz.zeroValue0
 t3:=Tryz.underlying3
 a3:=Tryz.isAgg3
 z3:=Tryz.sizeOf3
 v3:=Tryz.zeroValue3
 t4:=Tryz.underlying4
 a4:=Tryz.isAgg4
 z4:=Tryz.sizeOf4
 v4:=Tryz.zeroValue4
 t22:=Tryz.underlying22
 a22:=Tryz.isAgg22
 z22:=Tryz.sizeOf22
 v22:=Tryz.zeroValue22
 i3:=by kernel_rfl }
end Go.Proofs.YtmnglemlimfpbaaGreat
namespace Go.bg
open Go.Can
def j0 (l:List Is)(x:Is)(c:List In):List Int:=c.map fun i=>match eT x i with
 | none=>-1
 | some y=>(cM l y:Int)
theorem sK {l:List Is}{y:Is}(h:y∈l)(t:List Is):cM (l++t) y=cM l y:=by
 unfold cM
 rw[List.findIdx_append,if_pos]
 exact List.findIdx_lt_length_of_exists ⟨y,h,by simp⟩
theorem Gw {l:List Is}{y:Is}(h:y∈l):l[cM l y]? = some y:=by
 have hl:=wg h
 have h2:=List.findIdx_getElem (xs:=l) (p:=fun y'=>decide (y'=y)) (w:=hl)
 rw[List.getElem?_eq_getElem hl]
 exact congrArg some (of_decide_eq_true h2)
theorem AK {l:List Is}(hn:l.Nodup){k:Nat}{y:Is}(h:l[k]? = some y):cM l y=k:=by
 have h2:=Gw (List.mem_of_getElem? h)
 obtain⟨h3,h4⟩:=List.getElem?_eq_some_iff.1 h
 obtain⟨h5,h6⟩:=List.getElem?_eq_some_iff.1 h2
 exact (List.getElem_inj hn).1 (h6.trans h4.symm)
theorem xC (x:Is)(t:List Is):∀ (c:List In) (l:List Is),(∀ i∈c,∀ y,eT x i=some y→y∈l)→j0 (l++t) x c=j0 l x c
 | [],_,_=>rfl
 | i::c,l,h=>by
  have ih:=xC x t c l fun j hj=>h j (List.mem_cons_of_mem _ hj)
  unfold j0 at ih ⊢
  rw[List.map_cons,List.map_cons,ih]
  congr 1
  cases hc:eT x i with
  | none=>rfl
  | some y=>
   simp only
   rw[sK (h i List.mem_cons_self y hc)]
theorem nU (l:List Nat)(n x:Nat):x∈dM l n↔x∈l∨x=n:=by
 unfold dM
 split
 ·rename_i h
  exact⟨.inl,fun h2=>h2.elim id fun e=>e ▸ h⟩
 ·rw[List.mem_append,List.mem_cons]
  have:=List.take_append_drop (bU l n) l
  constructor
  ·rintro (h | h | h)
   ·exact .inl (List.mem_of_mem_take h)
   ·exact .inr h
   ·exact .inl (List.mem_of_mem_drop h)
  ·rintro (h | h)
   ·rw[← this,List.mem_append] at h
    exact h.elim .inl fun h=>.inr (.inr h)
   ·exact .inr (.inl h)
structure SI (x:Is)(c:List In)(l:List Is)(r:List Nat)(L:List Is)(row:List Int)(R:List Nat):Prop where
 pre:∃ t,L=l++t
 row:row=j0 L x c
 mem:∀ i∈c,∀ y,eT x i=some y→y∈L
 nd:l.Nodup→L.Nodup
 new:∀ k y,l.length≤k→L[k]? = some y→∃ i∈c,eT x i=some y
 root:∀ n,n∈R↔n∈r∨∃ i∈c,gx i=true∧∃ y,eT x i=some y∧cM L y=n
theorem zi (x:Is):∀ (c:List In) (l:List Is) (r:List Nat),SI x c l r (fM x c l r).1 (fM x c l r).2.1 (fM x c l r).2.2
 | [],l,r=>by
  refine⟨⟨[],by simp[fM]⟩,rfl,(fun i hi=>by cases hi),id,fun k y h1 h2=>?_,fun n=>by simp[fM]⟩
  simp only[fM] at h2
  rw[List.getElem?_eq_none h1] at h2
  cases h2
 | i::c,l,r=>by
  cases hc:eT x i with
  | none=>
   have ih:=zi x c l r
   simp only[fM,hc]
   refine⟨ih.pre,?_,?_,ih.nd,?_,?_⟩
   ·rw[ih.row];simp only[j0,List.map_cons,hc]
   ·intro j hj y hy
    rcases List.mem_cons.1 hj with rfl | hj
    ·rw[hc] at hy;cases hy
    ·exact ih.mem j hj y hy
   ·intro k y h1 h2
    obtain⟨j,hj,hy⟩:=ih.new k y h1 h2
    exact⟨j,List.mem_cons_of_mem _ hj,hy⟩
   ·intro n
    rw[ih.root]
    constructor
    ·rintro (h | ⟨j,hj,h⟩)
     ·exact .inl h
     ·exact .inr ⟨j,List.mem_cons_of_mem _ hj,h⟩
    ·rintro (h | ⟨j,hj,hg,y,hy,h⟩)
     ·exact .inl h
     ·rcases List.mem_cons.1 hj with rfl | hj
      ·rw[hc] at hy;cases hy
      ·exact .inr ⟨j,hj,hg,y,hy,h⟩
  | some z=>
   have ih:=zi x c (cK l z) (if gx i=true then dM r (cM (cK l z) z) else r)
   simp only[fM,hc]
   generalize fM x c (cK l z) (if gx i=true then dM r (cM (cK l z) z) else r)=S at ih ⊢
   obtain⟨t,ht⟩:=ih.pre
   obtain⟨t',ht'⟩:=yQ l z
   have hz:z∈cK l z:=yR l z
   have hzi:cM S.1 z=cM (cK l z) z:=by rw[ht];exact sK hz t
   refine⟨⟨t'++t,by rw[ht,ht',List.append_assoc]⟩,?_,?_,fun h=>ih.nd (jz h),?_,?_⟩
   ·rw[ih.row];simp only[j0,List.map_cons,hc,hzi]
   ·intro j hj y hy
    rcases List.mem_cons.1 hj with rfl | hj
    ·rw[hc] at hy;cases hy;rw[ht];exact List.mem_append_left _ hz
    ·exact ih.mem j hj y hy
   ·intro k y h1 h2
    by_cases hk:(cK l z).length≤k
    ·obtain⟨j,hj,hy⟩:=ih.new k y hk h2
     exact⟨j,List.mem_cons_of_mem _ hj,hy⟩
    ·rw[ht,List.getElem?_append_left (by omega)] at h2
     refine⟨i,List.mem_cons_self,?_⟩
     unfold cK at h2 hk
     split at h2
     ·rw[List.getElem?_eq_none h1] at h2;cases h2
     ·rw[List.getElem?_append_right h1] at h2
      have:k-l.length=0:=by
       have:=(List.getElem?_eq_some_iff.1 h2).1
       simp only[List.length_cons,List.length_nil] at this
       omega
      rw[this] at h2
      simp only[List.getElem?_cons_zero,Option.some.injEq] at h2
      rw[hc,h2]
   ·intro n
    rw[ih.root]
    constructor
    ·rintro (h | ⟨j,hj,h⟩)
     ·by_cases hg:gx i=true
      ·rw[if_pos hg,nU] at h
       rcases h with h | h
       ·exact .inl h
       ·exact .inr ⟨i,List.mem_cons_self,hg,z,hc,by rw[hzi,h]⟩
      ·rw[if_neg hg] at h
       exact .inl h
     ·exact .inr ⟨j,List.mem_cons_of_mem _ hj,h⟩
    ·rintro (h | ⟨j,hj,hg,y,hy,h⟩)
     ·refine .inl ?_
      split
      ·rw[nU];exact .inl h
      ·exact h
     ·rcases List.mem_cons.1 hj with rfl | hj
      ·refine .inl ?_
       rw[if_pos hg,nU]
       rw[hc] at hy;cases hy
       exact .inr (by rw[← h,hzi])
      ·exact .inr ⟨j,hj,hg,y,hy,h⟩
structure CI (u:Un)(i:Nat)(l:List Is)(cs:List (List Int))(r:List Nat):Prop where
 len:cs.length=i
 le:i≤l.length
 pos:0<l.length
 nd:l.Nodup
 mem:∀ j x,j<i→l[j]? = some x→∀ c∈aM u x,∀ y,eT x c=some y→y∈l
 row:∀ j x,j<i→l[j]? = some x→cs[j]? = some (j0 l x (aM u x))
 up:∀ k y,0<k→l[k]? = some y→∃ j x,j<i∧j<k∧l[j]? = some x∧∃ c∈aM u x,eT x c=some y
 root:∀ n,n∈r↔n=0∨∃ j x,j<i∧l[j]? = some x∧∃ c∈aM u x,gx c=true∧∃ y,eT x c=some y∧cM l y=n
theorem CI.step {u:Un}{i:Nat}{l:List Is}{cs:List (List Int)}{r:List Nat}(h:CI u i l cs r){x:Is}(hx:l[i]? = some x) :
  CI u (i+1) (fM x (aM u x) l r).1 (cs++[(fM x (aM u x) l r).2.1]) (fM x (aM u x) l r).2.2:=by
 have s:=zi x (aM u x) l r
 generalize fM x (aM u x) l r=S at s ⊢
 obtain⟨t,ht⟩:=s.pre
 have hil:=(List.getElem?_eq_some_iff.1 hx).1
 have hat:∀ j,j<l.length→S.1[j]? = l[j]?:=fun j hj=>by rw[ht,List.getElem?_append_left hj]
 have hle:l.length≤S.1.length:=by rw[ht];simp
 have hsx:S.1[i]? = some x:=by rw[hat i hil,hx]
 have hlen:=h.len
 have hmem:∀ j y,j<i→l[j]? = some y→∀ c∈aM u y,∀ z,eT y c=some z→cM S.1 z=cM l z:=fun j y hj hy c hc z hz=>by
  rw[ht];exact sK (h.mem j y hj hy c hc z hz) t
 refine⟨by simp[hlen],by omega,by have:=h.pos;omega,s.nd h.nd,?_,?_,?_,?_⟩
 ·intro j y hj hy c hc z hz
  by_cases e:j=i
  ·subst e
   rw[hsx] at hy;cases hy
   exact s.mem c hc z hz
  ·rw[hat j (by omega)] at hy
   rw[ht]
   exact List.mem_append_left _ (h.mem j y (by omega) hy c hc z hz)
 ·intro j y hj hy
  by_cases e:j=i
  ·subst e
   rw[hsx] at hy;cases hy
   rw[List.getElem?_append_right (by omega),hlen,Nat.sub_self,s.row]
   rfl
  ·rw[hat j (by omega)] at hy
   rw[List.getElem?_append_left (by omega),h.row j y (by omega) hy,ht,xC]
   exact fun c hc z hz=>h.mem j y (by omega) hy c hc z hz
 ·intro k y hk hy
  by_cases hkl:k<l.length
  ·rw[hat k hkl] at hy
   obtain⟨j,z,h1,h2,h3,h4⟩:=h.up k y hk hy
   exact⟨j,z,by omega,h2,by rw[hat j (by omega)];exact h3,h4⟩
  ·obtain⟨c,hc,hy2⟩:=s.new k y (by omega) hy
   exact⟨i,x,by omega,by omega,hsx,c,hc,hy2⟩
 ·intro n
  rw[s.root,h.root]
  constructor
  ·rintro ((h1 | ⟨j,y,h1,h2,c,h3,h4,z,h5,h6⟩) | ⟨c,hc,hg,y,hy,h1⟩)
   ·exact .inl h1
   ·exact .inr ⟨j,y,by omega,by rw[hat j (by omega)];exact h2,c,h3,h4,z,h5,by rw[hmem j y h1 h2 c h3 z h5];exact h6⟩
   ·exact .inr ⟨i,x,by omega,hsx,c,hc,hg,y,hy,h1⟩
  ·rintro (h1 | ⟨j,y,h1,h2,c,h3,h4,z,h5,h6⟩)
   ·exact .inl (.inl h1)
   ·by_cases e:j=i
    ·subst e
     rw[hsx] at h2;cases h2
     exact .inr ⟨c,h3,h4,z,h5,h6⟩
    ·rw[hat j (by omega)] at h2
     exact .inl (.inr ⟨j,y,by omega,h2,c,h3,h4,z,h5,by rw[← hmem j y (by omega) h2 c h3 z h5];exact h6⟩)
theorem oH {u:Un}(hu:ox u){x:Is}(hx:qh u x):∀ (c:List In) (l:List Is) (r:List Nat),(∀ i∈c,i∈aM u x)→l.Nodup→(∀ y∈l,qh u y)→(fM x c l r).1.Nodup∧∀ y∈(fM x c l r).1,qh u y
 | [],_,_,_,h1,h2=>⟨h1,h2⟩
 | i::c,l,r,hc,h1,h2=>by
  simp only[fM]
  split
  ·exact oH hu hx c l r (fun j hj=>hc j (List.mem_cons_of_mem _ hj)) h1 h2
  ·rename_i y hy
   exact oH hu hx c _ _ (fun j hj=>hc j (List.mem_cons_of_mem _ hj)) (jz h1) (wU h2 (te hu hx (hc i List.mem_cons_self) hy))
theorem Bj {u:Un}(hu:ox u):∀ (f i:Nat) (l:List Is) (cs:List (List Int)) (r:List Nat),i+f=100→(∀ y∈l,qh u y)→CI u i l cs r →
  CI u (km u f i l cs r).is.length (km u f i l cs r).is (km u f i l cs r).calls (km u f i l cs r).roots
 | 0,i,l,cs,r,hf,hv,h=>by
  have:=dG hu h.nd hv
  have:=h.le
  omega
 | f+1,i,l,cs,r,hf,hv,h=>by
  simp only[km]
  split
  ·rename_i hn
   have hle:l.length≤i:=by simpa using hn
   have hi:i=l.length:=by have:=h.le;omega
   subst hi
   exact h
  ·rename_i x hx
   exact Bj hu f (i+1) _ _ _ (by omega) (oH hu (hv x (List.mem_of_getElem? hx)) (aM u x) l r (fun _ h=>h) h.nd hv).2 (h.step hx)
theorem wK {u:Un}(hu:ox u):CI u (gE u).is.length (gE u).is (gE u).calls (gE u).roots:=by
 refine Bj hu 100 0 [⟨u.main,[]⟩] [] [0] rfl (fun x hx=>?_) ⟨rfl,by simp,by simp,by simp,(fun j x hj=>by omega),(fun j x hj=>by omega),fun k y hk hy=>?_,fun n=>by simp⟩
 ·rw[List.mem_singleton.1 hx]
  have hp:=hu.np.1
  obtain⟨q,hq⟩:∃ q,u.ps[0]? = some q:=⟨_,List.getElem?_eq_getElem (by omega)⟩
  exact⟨⟨q,by rw[hu.main];exact hq,by rw[(hu.p0 q hq).2];rfl⟩,fun l hl=>by cases hl⟩
 ·obtain⟨k',rfl⟩:∃ k',k=k' + 1:=⟨k-1,by omega⟩
  simp at hy
end Go.bg
