/- The program's closing: the map of known instances; add. | The program's closing collects roots and sorts them at the end. No function of the program is mentioned here. | The program's closing: examine. -/
import Derived.Test.YtmnglemlimfpbaaGreatZ45
import Derived.Test.YtmnglemlimfpbaaGreatZ46
import Derived.Test.YtmnglemlimfpbaaGreatZ43
import Derived.Lib.SlicesCompact
namespace Go.bg
open Go.Can
def lM (x:Is):Value:=x6 x.proc (x.aE.map fun n:Nat=>(n:Int))
def qx:List Is→Nat→List (Value×Value)
 | [],_=>[]
 | x::r,i=>(lM x,.int .i64 i)::qx r (i+1)
theorem rB (x y:Is):wX (lM x) (lM y)=decide (x=y):=by
 rw[lM,lM,Ah]
 by_cases h:x=y
 ·subst h;simp
 ·rw[decide_eq_false h]
  have:kE x y.proc (y.aE.map fun n:Nat=>(n:Int))=false:=by rw[Ao];exact decide_eq_false h
  exact this
theorem sv (x:Is):∀ (l:List Is) (i:Nat),jt (lM x) (qx l i)=if x∈l then some (.int .i64 (i+cM l x:Nat)) else none
 | [],_=>rfl
 | y::r,i=>by
  simp only[qx,jt,rB,decide_eq_true_eq,cM,List.findIdx_cons]
  by_cases h:x=y
  ·subst h;simp
  ·rw[if_neg h,sv x r (i+1)]
   have h':¬ y=x:=fun e=>h e.symm
   simp only[List.mem_cons,h,false_or,decide_eq_false h',cond_false]
   by_cases hm:x∈r
   ·rw[if_pos hm,if_pos hm]
    simp only[cM]
    congr 3
    omega
   ·rw[if_neg hm,if_neg hm]
theorem AW (x:Is):∀ (l:List Is) (i:Nat),qx (l++[x]) i=qx l i++[(lM x,.int .i64 (i+l.length:Nat))]
 | [],i=>rfl
 | y::r,i=>by
  simp only[List.cons_append,qx,AW x r (i+1),List.length_cons]
  congr 5
  omega
theorem yo (l:List Is):∀ (i:Nat) (e:Value×Value),e∈qx l i→∃ x∈l,e.1=lM x:=by
 induction l with
 | nil=>intro i e h;cases h
 | cons y r ih=>
  intro i e h
  simp only[qx,List.mem_cons] at h
  rcases h with rfl | h
  ·exact⟨y,List.mem_cons_self,rfl⟩
  ·obtain⟨x,hx,he⟩:=ih (i+1) e h
   exact⟨x,List.mem_cons_of_mem _ hx,he⟩
theorem DV (x:Is)(l:List Is)(h:x∉l):gM (lM x) (.int .i64 (l.length:Nat)) (qx l 0)=qx (l++[x]) 0:=by
 rw[jN,AW]
 ·simp
 ·intro e he e2
  obtain⟨y,hy,h2⟩:=yo l 0 e he
  have h3:=rB y x
  rw[← h2,e2] at h3
  have h4:wX (lM x) (lM x)=true:=by rw[rB];simp
  rw[h4] at h3
  have:=of_decide_eq_true h3.symm
  exact h (this ▸ hy)
def lp (u:Un)(l:List Is)(k A B:Nat)(si:Nat):List CV:=de u++[.bw k 0 l.length,.bw 2 0 A,.bw 3 0 B,.mp 4 (qx l 0),I si]
end Go.bg
namespace Go.Proofs.YtmnglemlimfpbaaGreat
open Go.Can Go.bg
theorem ru:Ad Tryz.prog 111 121 3 (nL 8) (.int .i64 0):=B6 (m:=3) (by kernel_rfl) (by omega) AJ (Cb (by kernel_rfl))
theorem gQ.iN {P : Program} {aj : List (Nat × TI)} {f : FuncId} {fn : Func} {c : Code} {args : List CV} {H : List (Nat × Ob)} {n : Nat} {ks : List Nat} {R : CV → St → Prop} (hf : P.funcs[f]? = some fn) (hb : fn.body = some c) (hn : (fn.name == "runtime.NumGoroutine") = false)
  (ha:args.length≤fn.ntmps) (h:∀ C:Cx,C.nt=fn.ntmps→C.n0=n→(∀ k∈ks,∀ B b,C.σ0 k=some B→B.gK=some b→C.own b∨C.w0.heap.size≤b)→T P C c ⟨(enter args).env,H,n⟩ (AZ C aj fn R)):gQ P aj f args H n ks R:=⟨fn,c,hf,hb,hn,ha,h⟩
def qN (u:Un)(l:List Is)(k A B:Nat)(o2 o3:Ob)(si:Nat):List (Nat×Ob):=[(0,⟨113,0,lp u l k A B si⟩),(k,cL l),(2,o2),(3,o3)]
mutual
theorem lY:∀ c:CV,tree c=true→cE c=true
 | .agg cs,h=>by simp only[cE];exact dz cs (by simpa only[tree] using h)
 | .fn _ cs,h=>by simp only[cE];exact dz cs (by simpa only[tree] using h)
 | .iface _ cs,h=>by simp only[cE];exact dz cs (by simpa only[tree] using h)
 | .df cs,h=>by simp only[cE];exact dz cs (by simpa only[tree] using h)
 | .iter _ _ _,h=>by simp[tree] at h
 | .mp _ _,h=>by simp[tree] at h
 | .bw _ _ _,h=>by simp[tree] at h
 | .aq _ _,h=>by simp[tree] at h
 | .int _ _,_=>rfl
 | .bool _,_=>rfl
 | .str _,_=>rfl
 | .ax _ _,_=>rfl
 | .ai,_=>rfl
 | .cq _,_=>rfl
 | .br,_=>rfl
 | .b9,_=>rfl
 | .any,_=>rfl
theorem dz:∀ cs:List CV,trees cs=true→cZ cs=true
 | [],_=>rfl
 | c::cs,h=>by
  simp only[trees,Bool.and_eq_true] at h
  simp only[cZ,lY c h.1,dz cs h.2,Bool.and_self]
end
theorem oA (k:Nat){cs:List CV}(h:trees cs=true):(cs.all fun c=>cE c || ja k c)=true:=List.all_eq_true.2 fun c hc=>by
 rw[lY c (fX h c hc)]
 rfl
theorem mK (k:Nat)(es:List (Value×Value)){cs:List CV}(h:trees cs=true):cs.map (w9 k es)=cs:=by
 refine (List.map_congr_left fun c hc=>?_).trans (List.map_id cs)
 have ht:=fX h c hc
 cases c<;>first | rfl | simp[tree] at ht
theorem Iq (k:Nat)(es es':List (Value×Value)):w9 k es (.mp k es')=.mp k es:=by simp[w9,ja]
theorem Gh (k:Nat)(es:List (Value×Value))(cs:List CV)(n:Nat):w9 k es (.ax cs n)=.ax cs n:=rfl
theorem Gj (k:Nat)(es:List (Value×Value))(q:IntKind)(n:Int):w9 k es (.int q n)=.int q n:=rfl
theorem Gi (k:Nat)(es:List (Value×Value))(o f n:Nat):w9 k es (.bw o f n)=.bw o f n:=rfl
theorem mpC_optr (k:Nat)(es:List (Value×Value))(o f:Nat):w9 k es (.aq o f)=.aq o f:=rfl
theorem mpC_bool (k:Nat)(es:List (Value×Value))(b:Bool):w9 k es (.bool b)=.bool b:=rfl
theorem mpC_agg (k:Nat)(es:List (Value×Value))(cs:List CV):w9 k es (.agg cs)=.agg cs:=rfl
theorem Gp (p:Int)(ls:List Int)(h:ls.length≤6):cZ (fb p ls)=true:=by
 rw[rh p ls h]
 generalize ui p ls=l
 induction l with
 | nil=>rfl
 | cons a r ih=>simpa [cZ,cE] using ih
theorem x8 {u:Un}(hu:ox u){y:Is}(hy:qh u y):nL 8 (lM y)=true:=by
 obtain⟨⟨q,hq,hl⟩,hm⟩:=hy
 have h1:=(List.getElem?_eq_some_iff.1 hq).1
 have h2:=hu.np
 have h3:=hu.nm
 have h4:=hu.pr q (List.mem_of_getElem? hq)
 have hin:∀ n:Nat,n<10→nw (n:Int)=true:=fun n hn=>by simp only[nw,Bool.and_eq_true,decide_eq_true_eq];omega
 refine rX _ _ (by simp;omega) (hin _ (by omega)) fun n hn=>?_
 obtain⟨m,hm',rfl⟩:=List.mem_map.1 hn
 exact hin _ (by have:=hm m hm';omega)
theorem AV {u:Un}(hu:ox u){l:List Is}(hv:∀ x∈l,qh u x):((qx l 0).all fun e=>nL 8 e.1)=true:=List.all_eq_true.2 fun e he=>by
 obtain⟨x,hx,h⟩:=yo l 0 e he
 rw[h]
 exact x8 hu (hv x hx)
set_option maxHeartbeats 4000000 in
theorem Fl (u:Un)(hu:ox u)(l:List Is)(hl:l.length≤200)(hv:∀ x∈l,qh u x)(x:Is)(hx:qh u x)(si:Nat)(hsi:si+(aM u x).length≤8000)(A B:Nat)(o2 o3:Ob)(t2:trees o2.cells=true)(t3:trees o3.cells=true) :
  gQ Tryz.prog aj 48 [.aq 0 0,.agg (cg x)] (qN u l 1 A B o2 o3 si) 5 [4] (iR (I (cM (cK l x) x)) (qN u (cK l x) 5 A B o2 o3 (if x∈l then si else si+(aM u x).length)) 6):=by
 obtain⟨⟨pq,hpq,hll⟩,hlm⟩:=id hx
 have hcode:aM u x=pq.code:=by simp only[aM,hpq]
 have hpl:=(List.getElem?_eq_some_iff.1 hpq).1
 have hdr:=bG (f:=kX) (n:=5) eU hpq 4 (by omega)
 have hprb:=hu.pr pq (List.mem_of_getElem? hpq)
 have hx6:x.aE.length≤6:=by omega
 have hx6':(x.aE.map fun n:Nat=>(n:Int)).length≤6:=by simpa using hx6
 have hkey:=sE x.proc _ hx6'
 rw[← en] at hkey
 have hkl:=sG x.proc _ hx6'
 have htk8:(fb x.proc (x.aE.map fun n:Nat=>(n:Int))).take 8=fb x.proc (x.aE.map fun n:Nat=>(n:Int)):=List.take_of_length_le (by omega)
 have tkc:=nV x.proc _ hx6'
 have hko:=pZ x.proc _ hx6'
 have hcv:=qb x.proc _ hx6'
 have targ:trees [.agg [I x.proc,aZ x.aE]]=true:=by simp only[trees,tree,aN,Bool.and_self]
 refine gQ.iN Tryz.func48 rfl (by kernel_rfl) (by simp[Tryz.ntmps48]) fun C hC hC0 hM=>?_
 rw[Tryz.ntmps48] at hC
 simp only[qN,lp,de,cg,List.cons_append,List.nil_append,ints]
 refine T.seq (T.go' aa ?_)
 simp[hC]
 refine T.seq (T.go' aa ?_)
 simp[hC]
 refine TL.call (by simp[hC]) rfl rfl (aI.of rfl targ hkey) (TL.go' aa ?_)
 simp[hC,hkl]
 have tu:=dD u
 simp only[de,ints] at tu
 rw[hcode] at hsi ⊢
 have hrec:=x8 hu hx
 have hall:=AV hu hv
 have hmx:jt (lM x) (qx l 0)=if x∈l then some (.int .i64 (cM l x:Nat)) else none:=by rw[sv];simp
 by_cases hm:x∈l
 ·have had:cK l x=l:=if_pos hm
  rw[had,if_pos hm]
  refine T.seq (T.cut (fun s=>s=⟨[(8,.bool true),(7,I (cM l x)),(5,.aq 6 0),(3,.aq 5 0),(0,.aq 0 0)],[(0,⟨113,0,lp u l 1 A B si⟩),(1,cL l),(2,o2),(3,o3),(5,⟨74,0,cg x⟩),(6,⟨121,0,fb x.proc (x.aE.map fun n:Nat=>(n:Int))⟩)],7⟩) ?_ ?_)
  ·refine T.mo aa follows [0,1,2] 8 (by kernel_rfl) (by kernel_rfl) (by simp) rfl ?_
   simp[hC]
   refine XZ.read (i:=3) (by kernel_rfl) rfl ?_
   simp[bQ,iK,dW,cA,hC]
   refine XZ.read (i:=4) (by kernel_rfl) rfl ?_
   simp[bQ,iK,dW,cA,hC,hkl,htk8]
   refine XZ.one (i:=5) (by kernel_rfl) ?_
   refine kr.call (i:=5) rfl rfl (mq rfl (sC ru (x:=.tmp 18) (y:=.tmp 19) (k:=4) (es:=qx l 0) (cy:=.agg (fb x.proc (x.aE.map fun n:Nat=>(n:Int)))) (kv:=lM x) (c:=I (cM l x)) (by simp[hC]) rfl (by simp) (by simp) hcv hrec hall (by rw[hmx,if_pos hm];rfl)) (TL.nil ?_))
   simp[hmx,hm]
   refine XZ.read (i:=6) (by kernel_rfl) rfl ?_
   simp[bQ,iK,dW,cA,hC]
   refine XZ.two (i:=7) (j:=8) (by kernel_rfl) ?_ ?_
   ·refine kr.call (i:=7) rfl rfl (TL.go' aa ?_)
    simp[hC]
    refine XZ.two (i:=8) (j:=9) (by kernel_rfl) ?_ ?_
    ·refine kr.call (i:=8) rfl rfl (TL.go' aa ?_)
     simp[hC]
     refine XZ.one (i:=9) (by kernel_rfl) ?_
     refine kr.op (i:=9) rfl ?_
     simp[bQ,iK,dW,cA,hC]
     refine XZ.one (i:=10) (by kernel_rfl) ?_
     refine kr.op (i:=10) rfl ?_
     simp[bQ,iK,dW,cA,hC]
     refine XZ.end (by kernel_rfl) ?_
     simp only[thenS]
     refine ae.trim [8,7,5,3,0] [0,1,2,3,5,6] 7 (by simp[-List.all_eq_true,-List.all_flatMap,af t2,af t3,af tkc,aB 7 _ (aN x.aE),af (ay aO l),cL]) (by omega) ?_
     simp[lp,de,cg,ints]
    ·refine kr.op (i:=9) rfl ?_
     simp[bQ,iK,dW,cA,hC]
     refine XZ.one (i:=8) (by kernel_rfl) ?_
     refine kr.call (i:=8) rfl rfl (TL.go' aa ?_)
     simp[hC]
     refine XZ.one (i:=10) (by kernel_rfl) ?_
     refine kr.op (i:=10) rfl ?_
     simp[bQ,iK,dW,cA,hC]
     refine XZ.end (by kernel_rfl) ?_
     simp only[thenS]
     refine ae.trim [8,7,5,3,0] [0,1,2,3,5,6] 7 (by simp[-List.all_eq_true,-List.all_flatMap,af t2,af t3,af tkc,aB 7 _ (aN x.aE),af (ay aO l),cL]) (by omega) ?_
     simp[lp,de,cg,ints]
   ·refine kr.call (i:=8) rfl rfl (TL.go' aa ?_)
    simp[hC]
    refine XZ.one (i:=7) (by kernel_rfl) ?_
    refine kr.call (i:=7) rfl rfl (TL.go' aa ?_)
    simp[hC]
    refine XZ.one (i:=9) (by kernel_rfl) ?_
    refine kr.op (i:=9) rfl ?_
    simp[bQ,iK,dW,cA,hC]
    refine XZ.one (i:=10) (by kernel_rfl) ?_
    refine kr.op (i:=10) rfl ?_
    simp[bQ,iK,dW,cA,hC]
    refine XZ.end (by kernel_rfl) ?_
    simp only[thenS]
    refine ae.trim [8,7,5,3,0] [0,1,2,3,5,6] 7 (by simp[-List.all_eq_true,-List.all_flatMap,af t2,af t3,af tkc,aB 7 _ (aN x.aE),af (ay aO l),cL]) (by omega) ?_
    simp[lp,de,cg,ints]
  ·rintro s rfl
   simp only[lp,de,cg,List.cons_append,List.nil_append,ints]
   refine T.seq (T.go' aa ?_)
   simp[hC]
   refine T.cond (b:=true) rfl ?_
   simp
   refine T.seq (T.go' aa ?_)
   simp[hC]
   refine T.ret ?_
   have tis:=ay aO l
   have r1:=fun ρ=>az ρ _ tis
   have r2:=fun ρ=>az ρ _ t2
   have r3:=fun ρ=>az ρ _ t3
   simp only[cL]
   refine ae.le (Le.norm [4] [(0,0),(1,5),(2,2),(3,3),(4,4)] 5 6 (by first | rfl | decide) (by simp[assoc]) (by simp[ca,lN,ky,tree,assoc,-List.all_eq_true,-List.all_flatMap,aA t2,aA t3,aA tis]) (by omega)) ?_
   simp[cW,bD,bJ,dr,fx,assoc,r1,r2,r3]
   refine ae.here ?_
   simp[iR]
 ·have had:cK l x=l++[x]:=if_neg hm
  rw[had,if_neg hm]
  refine T.seq (T.cut (fun s=>s=⟨[(8,.bool false),(7,I 0),(5,.aq 6 0),(3,.aq 5 0),(0,.aq 0 0)],[(0,⟨113,0,lp u l 1 A B si⟩),(1,cL l),(2,o2),(3,o3),(5,⟨74,0,cg x⟩),(6,⟨121,0,fb x.proc (x.aE.map fun n:Nat=>(n:Int))⟩)],7⟩) ?_ ?_)
  ·refine T.mo aa follows [0,1,2] 8 (by kernel_rfl) (by kernel_rfl) (by simp) rfl ?_
   simp[hC]
   refine XZ.read (i:=3) (by kernel_rfl) rfl ?_
   simp[bQ,iK,dW,cA,hC]
   refine XZ.read (i:=4) (by kernel_rfl) rfl ?_
   simp[bQ,iK,dW,cA,hC,hkl,htk8]
   refine XZ.one (i:=5) (by kernel_rfl) ?_
   refine kr.call (i:=5) rfl rfl (mq rfl (sC ru (x:=.tmp 18) (y:=.tmp 19) (k:=4) (es:=qx l 0) (cy:=.agg (fb x.proc (x.aE.map fun n:Nat=>(n:Int)))) (kv:=lM x) (c:=I 0) (by simp[hC]) rfl (by simp) (by simp) hcv hrec hall (by rw[hmx,if_neg hm];rfl)) (TL.nil ?_))
   simp[hmx,hm]
   refine XZ.read (i:=6) (by kernel_rfl) rfl ?_
   simp[bQ,iK,dW,cA,hC]
   refine XZ.two (i:=7) (j:=8) (by kernel_rfl) ?_ ?_
   ·refine kr.call (i:=7) rfl rfl (TL.go' aa ?_)
    simp[hC]
    refine XZ.two (i:=8) (j:=9) (by kernel_rfl) ?_ ?_
    ·refine kr.call (i:=8) rfl rfl (TL.go' aa ?_)
     simp[hC]
     refine XZ.one (i:=9) (by kernel_rfl) ?_
     refine kr.op (i:=9) rfl ?_
     simp[bQ,iK,dW,cA,hC]
     refine XZ.one (i:=10) (by kernel_rfl) ?_
     refine kr.op (i:=10) rfl ?_
     simp[bQ,iK,dW,cA,hC]
     refine XZ.end (by kernel_rfl) ?_
     simp only[thenS]
     refine ae.trim [8,7,5,3,0] [0,1,2,3,5,6] 7 (by simp[-List.all_eq_true,-List.all_flatMap,af t2,af t3,af tkc,aB 7 _ (aN x.aE),af (ay aO l),cL]) (by omega) ?_
     simp[lp,de,cg,ints]
    ·refine kr.op (i:=9) rfl ?_
     simp[bQ,iK,dW,cA,hC]
     refine XZ.one (i:=8) (by kernel_rfl) ?_
     refine kr.call (i:=8) rfl rfl (TL.go' aa ?_)
     simp[hC]
     refine XZ.one (i:=10) (by kernel_rfl) ?_
     refine kr.op (i:=10) rfl ?_
     simp[bQ,iK,dW,cA,hC]
     refine XZ.end (by kernel_rfl) ?_
     simp only[thenS]
     refine ae.trim [8,7,5,3,0] [0,1,2,3,5,6] 7 (by simp[-List.all_eq_true,-List.all_flatMap,af t2,af t3,af tkc,aB 7 _ (aN x.aE),af (ay aO l),cL]) (by omega) ?_
     simp[lp,de,cg,ints]
   ·refine kr.call (i:=8) rfl rfl (TL.go' aa ?_)
    simp[hC]
    refine XZ.one (i:=7) (by kernel_rfl) ?_
    refine kr.call (i:=7) rfl rfl (TL.go' aa ?_)
    simp[hC]
    refine XZ.one (i:=9) (by kernel_rfl) ?_
    refine kr.op (i:=9) rfl ?_
    simp[bQ,iK,dW,cA,hC]
    refine XZ.one (i:=10) (by kernel_rfl) ?_
    refine kr.op (i:=10) rfl ?_
    simp[bQ,iK,dW,cA,hC]
    refine XZ.end (by kernel_rfl) ?_
    simp only[thenS]
    refine ae.trim [8,7,5,3,0] [0,1,2,3,5,6] 7 (by simp[-List.all_eq_true,-List.all_flatMap,af t2,af t3,af tkc,aB 7 _ (aN x.aE),af (ay aO l),cL]) (by omega) ?_
    simp[lp,de,cg,ints]
  ·rintro s rfl
   simp only[lp,de,cg,List.cons_append,List.nil_append,ints]
   refine T.seq (T.go' aa ?_)
   simp[hC]
   refine T.cond (b:=false) rfl (T.skip ?_)
   simp
   have ws:=db ((si:Int)+pq.code.length) (by omega) (by omega)
   refine T.seq (T.rx aa follows [0,1,2,3,4,5,6,7,8,9,10,11,12,13,14,15,16,17,18] [] (by kernel_rfl) ?_)
   simp[hC,hpl,hdr,kX,ws]
   refine T.le (Le.trim [5,3,0] [0,1,2,3,5,6] 7 (by simp[-List.all_eq_true,-List.all_flatMap,af t2,af t3,af tkc,aB 7 _ (aN x.aE),af (ay aO l),cL]) (by omega)) ?_
   simp
   have hne:((l.length:Int) == 256)=false:=by simp;omega
   have hnb:¬ (8000:Int)<si+pq.code.length:=by omega
   refine T.seq (T.seq (T.go' aa ?_))
   simp[hC,hne,hnb]
   refine T.cond (b:=false) (by simp[ev,assoc]) (T.skip ?_)
   simp
   refine T.seq ?_
   refine T.mo aa follows [0,1,2,5,6,7,8] 5 (by kernel_rfl) (by kernel_rfl) (by simp) rfl ?_
   simp[hC]
   refine XZ.read (i:=3) (by kernel_rfl) rfl ?_
   simp[bQ,iK,dW,cA,hC]
   refine XZ.read (i:=4) (by kernel_rfl) rfl ?_
   simp[bQ,iK,dW,cA,hC,hkl,htk8]
   refine XZ.read (i:=9) (by kernel_rfl) rfl ?_
   simp[bQ,iK,dW,cA,hC]
   refine XZ.read (i:=10) (by kernel_rfl) rfl ?_
   simp[bQ,iK,dW,cA,hC]
   refine XZ.one (i:=11) (by kernel_rfl) ?_
   have n1:=oA 4 (ay aO l)
   have n2:=oA 4 t2
   have n3:=oA 4 t3
   have n6:=oA 4 tkc
   have n7:=lY _ (aN x.aE)
   refine kr.call (i:=11) rfl rfl (mq rfl (zD ru (x:=.tmp 60) (y:=.tmp 61) (v:=.tmp 67) (k:=4) (es:=qx l 0) (cy:=.agg (fb x.proc (x.aE.map fun n:Nat=>(n:Int)))) (kv:=lM x) (cv:=I l.length) (vv:=.int .i64 l.length) (by simp) rfl (by simp) (by simp) hcv (by simp) rfl hrec hall (.inr fun B b hB hb=>hM 4 (by simp) B b hB hb) (by simp[y9,cE,ja,Eb,cL,n7,Gp x.proc _ hx6',-List.all_eq_true,-List.all_flatMap];exact⟨n1,n2,n3,n6⟩)) (TL.nil ?_))
   rw[DV x l hm]
   have m1:=mK 4 (qx (l++[x]) 0) (ay aO l)
   have m2:=mK 4 (qx (l++[x]) 0) t2
   have m3:=mK 4 (qx (l++[x]) 0) t3
   have m6:=mK 4 (qx (l++[x]) 0) tkc
   have m7:w9 4 (qx (l++[x]) 0) (aZ x.aE)=aZ x.aE:=rfl
   simp[Fw,DW,Iq,Gh,Gj,Gi,ja,cL,m1,m2,m3,m6,m7]
   refine XZ.end (by kernel_rfl) ?_
   simp only[thenS]
   refine T.le (Le.trim [5,3,0] [0,1,2,3,5,6] 7 (by simp[-List.all_eq_true,-List.all_flatMap,af t2,af t3,af tkc,aB 7 _ (aN x.aE),af (ay aO l)]) (by omega)) ?_
   simp
   have bd:(l.length+1)*32≤140737488355328:=by omega
   have hfl:(l.flatMap cg).length=l.length*2:=bu (f:=cg) dh l
   refine T.seq (T.rx aa follows [0,1,2,3,4,5,6,7,8,9,10,11,12] [(5,7)] (by kernel_rfl) ?_)
   simp[hC,bd,hfl,aX]
   have tis:=ay aO l
   have tnt:=aN x.aE
   simp only[aZ,tree] at tnt
   simp only[aZ]
   have r1:=fun ρ=>az ρ _ tis
   have r2:=fun ρ=>az ρ _ t2
   have r3:=fun ρ=>az ρ _ t3
   have r6:=fun ρ=>az ρ _ tkc
   have r1':∀ ρ,(l.flatMap cg).map (dr ρ)=l.flatMap cg:=fun ρ=>by rw[← iW];exact r1 ρ
   refine T.le (Le.norm [5,0] [(0,0),(20,5),(2,2),(3,3),(4,4),(6,6)] 5 7 (by first | rfl | decide) (by simp[assoc]) (by simp[ca,lN,ky,tree,assoc,-List.all_eq_true,-List.all_flatMap,aA t2,aA t3,aA tis,aA tkc]) (by omega)) ?_
   simp[cW,bD,bJ,dr,fx,assoc,r1',r2,r3,r6,iW]
   have hm2:x∈l++[x]:=by simp
   have hall2:=AV hu (l:=l++[x]) fun y hy=>by
    rcases List.mem_append.1 hy with h | h
    ·exact hv y h
    ·rw[List.mem_singleton.1 h];exact hx
   have hmx2:jt (lM x) (qx (l++[x]) 0)=some (.int .i64 (cM (l++[x]) x:Nat)):=by rw[sv,if_pos hm2];simp
   refine T.seq ?_
   refine T.mo aa follows [0,1,2] 4 (by kernel_rfl) (by kernel_rfl) (by simp) rfl ?_
   simp[hC]
   refine XZ.read (i:=3) (by kernel_rfl) rfl ?_
   simp[bQ,iK,dW,cA,hC]
   refine XZ.read (i:=4) (by kernel_rfl) rfl ?_
   simp[bQ,iK,dW,cA,hC,hkl,htk8]
   refine XZ.one (i:=5) (by kernel_rfl) ?_
   refine kr.call (i:=5) rfl rfl (mq rfl (uY ru (x:=.tmp 83) (y:=.tmp 84) (k:=4) (es:=qx (l++[x]) 0) (cy:=.agg (fb x.proc (x.aE.map fun n:Nat=>(n:Int)))) (kv:=lM x) (c:=I (cM (l++[x]) x)) (by simp[hC]) rfl (by simp) (by simp) hcv hrec hall2 (by rw[hmx2];rfl)) (TL.nil ?_))
   simp
   refine XZ.read (i:=6) (by kernel_rfl) rfl ?_
   simp[bQ,iK,dW,cA,hC]
   refine XZ.end (by kernel_rfl) ?_
   simp only[thenS]
   refine T.ret ?_
   refine ae.le (Le.norm [4] [(0,0),(5,5),(2,2),(3,3),(4,4)] 5 6 (by first | rfl | decide) (by simp[assoc]) (by simp[ca,lN,ky,tree,assoc,-List.all_eq_true,-List.all_flatMap,aA t2,aA t3,aA tis]) (by omega)) ?_
   simp[cW,bD,bJ,dr,fx,assoc,r1',r2,r3,iW]
   refine ae.here ?_
   simp[cg,aZ,iR]
end Go.Proofs.YtmnglemlimfpbaaGreat
namespace Go.bg
open Go.Can
def ov (is:Is):List In→List Is→List Nat→List Is×List Int×List Nat
 | [],l,r=>(l,[],r)
 | i::c,l,r=>match eT is i with
  | none=>((ov is c l r).1,-1::(ov is c l r).2.1,(ov is c l r).2.2)
  | some x=>((ov is c (cK l x) (if gx i=true then r++[cM (cK l x) x] else r)).1,(cM (cK l x) x:Int)::(ov is c (cK l x) (if gx i=true then r++[cM (cK l x) x] else r)).2.1,(ov is c (cK l x) (if gx i=true then r++[cM (cK l x) x] else r)).2.2)
def gL (r:List Nat):List Nat:=r.foldl dM []
theorem Di (r:List Nat)(k:Nat):gL (r++[k])=dM (gL r) k:=by simp[gL]
theorem qS (is:Is):∀ (c:List In) (l:List Is) (r:List Nat),fM is c l (gL r)=((ov is c l r).1,(ov is c l r).2.1,gL (ov is c l r).2.2)
 | [],_,_=>rfl
 | i::c,l,r=>by
  cases hx:eT is i with
  | none=>simp only[fM,ov,hx,qS is c l r]
  | some x=>
   simp only[fM,ov,hx]
   have:(if gx i=true then dM (gL r) (cM (cK l x) x) else gL r)=gL (if gx i=true then r++[cM (cK l x) x] else r):=by
    split
    ·rw[Di]
    ·rfl
   rw[this,qS is c]
theorem B3 (l:List Nat)(n x:Nat):x∈dM l n↔x∈l∨x=n:=by
 unfold dM
 split
 ·rename_i h
  exact⟨.inl,fun h2=>h2.elim id fun e=>e ▸ h⟩
 ·rw[List.mem_append,List.mem_cons]
  have:=List.take_append_drop (bU l n) l
  constructor
  ·rintro (h | h | h)
   ·exact .inl (List.mem_of_mem_take h)
   ·exact .inr h
   ·exact .inl (List.mem_of_mem_drop h)
  ·rintro (h | h)
   ·rw[← this,List.mem_append] at h
    exact h.elim .inl fun h=>.inr (.inr h)
   ·exact .inr (.inl h)
theorem takeK (l:List Nat)(n:Nat):l.take (bU l n)=l.takeWhile (· < n):=by
 unfold bU
 induction l with
 | nil=>rfl
 | cons a r ih=>
  rw[List.takeWhile_cons]
  split
  ·simp[ih]
  ·simp
theorem dropK (l:List Nat)(n:Nat):l.drop (bU l n)=l.dropWhile (· < n):=by
 unfold bU
 induction l with
 | nil=>rfl
 | cons a r ih=>
  rw[List.takeWhile_cons,List.dropWhile_cons]
  split
  ·simp[ih]
  ·simp
theorem yp:∀ (l:List Nat) (n:Nat),l.Pairwise (· < ·)→n∉l→∀ x∈l.dropWhile (· < n),n<x
 | [],_,_,_=>by simp
 | a::r,n,hp,hn=>by
  rw[List.pairwise_cons] at hp
  simp only[List.mem_cons,not_or] at hn
  rw[List.dropWhile_cons]
  split
  ·exact yp r n hp.2 hn.2
  ·rename_i h
   simp only[decide_eq_true_eq,Nat.not_lt] at h
   intro x hx
   rcases List.mem_cons.1 hx with rfl | hx
   ·omega
   ·have:=hp.1 x hx
    omega
theorem Bs {l:List Nat}(h:l.Pairwise (· < ·))(n:Nat):(dM l n).Pairwise (· < ·):=by
 unfold dM
 split
 ·exact h
 ·rename_i hn
  rw[takeK,dropK]
  have h2:(l.takeWhile (· < n)++l.dropWhile (· < n)).Pairwise (· < ·):=by rw[List.takeWhile_append_dropWhile];exact h
  rw[List.pairwise_append] at h2
  obtain⟨a1,a2,a3⟩:=h2
  have hd:=yp l n h hn
  have ht:∀ x∈l.takeWhile (· < n),x<n:=fun x hx=>by
   have h3:=List.all_takeWhile (p:=fun x:Nat=>decide (x<n)) (l:=l)
   simpa using List.all_eq_true.1 h3 x hx
  rw[List.pairwise_append,List.pairwise_cons]
  refine⟨a1,⟨hd,a2⟩,fun x hx y hy=>?_⟩
  rcases List.mem_cons.1 hy with rfl | hy
  ·exact ht x hx
  ·exact a3 x hx y hy
theorem Hk (r:List Nat):∀ l:List Nat,l.Pairwise (· < ·)→(r.foldl dM l).Pairwise (· < ·)∧∀ x,x∈r.foldl dM l↔x∈l∨x∈r:=by
 induction r with
 | nil=>intro l h;exact⟨h,by simp⟩
 | cons a r ih=>
  intro l h
  obtain⟨h1,h2⟩:=ih (dM l a) (Bs h a)
  refine⟨h1,fun x=>?_⟩
  rw[List.foldl_cons,h2,B3,List.mem_cons]
  constructor
  ·rintro ((h | h) | h)
   ·exact .inl h
   ·exact .inr (.inl h)
   ·exact .inr (.inr h)
  ·rintro (h | h | h)
   ·exact .inl (.inl h)
   ·exact .inl (.inr h)
   ·exact .inr h
theorem Dh (r:List Nat):(gL r).Pairwise (· < ·):=(Hk r [] List.Pairwise.nil).1
theorem D0 (r:List Nat)(x:Nat):x∈gL r↔x∈r:=by
 rw[gL,(Hk r [] List.Pairwise.nil).2]
 simp
theorem Bn:∀ {a b:List Int},a.Pairwise (· < ·)→b.Pairwise (· < ·)→(∀ x,x∈a↔x∈b)→a=b
 | [],[],_,_,_=>rfl
 | [],y::b,_,_,h=>by have:=(h y).2 List.mem_cons_self;cases this
 | x::a,[],_,_,h=>by have:=(h x).1 List.mem_cons_self;cases this
 | x::a,y::b,h1,h2,h=>by
  rw[List.pairwise_cons] at h1 h2
  have e:x=y:=by
   have hx:=(h x).1 List.mem_cons_self
   have hy:=(h y).2 List.mem_cons_self
   rcases List.mem_cons.1 hx with e | hx
   ·exact e
   ·rcases List.mem_cons.1 hy with e | hy
    ·exact e.symm
    ·have:=h1.1 y hy
     have:=h2.1 x hx
     omega
  subst e
  rw[Bn h1.2 h2.2 fun z=>?_]
  have hz:=h z
  simp only[List.mem_cons] at hz
  constructor
  ·intro hm
   rcases hz.1 (.inr hm) with e | e
   ·have:=h1.1 z hm;omega
   ·exact e
  ·intro hm
   rcases hz.2 (.inr hm) with e | e
   ·have:=h2.1 z hm;omega
   ·exact e
open Go.Lib in
theorem qz (d:Array Int)(hs:d.toList.Pairwise (·≤·)):∀ m,m≤d.size→(compactUpTo d m).Pairwise (· < ·)∧(∀ x,x∈compactUpTo d m↔x∈d.toList.take m)
 | 0,_=>by simp[compactUpTo]
 | m+1,hm=>by
  obtain⟨h1,h2⟩:=qz d hs m (by omega)
  have hmt:d.toList.take (m+1)=d.toList.take m++[d[m]!]:=by
   rw[List.take_add_one]
   congr 1
   rw[getElem!_pos d m (by omega)]
   simp
  have hle:∀ x∈d.toList.take m,x≤d[m]!:=fun x hx=>by
   obtain⟨j,hj⟩:=List.getElem?_of_mem hx
   rw[List.getElem?_take] at hj
   split at hj
   ·rename_i hjm
    have hjd:j<d.toList.length:=by simp;omega
    rw[List.getElem?_eq_getElem hjd,Option.some.injEq] at hj
    have:=List.pairwise_iff_getElem.1 hs j m hjd (by simp;omega) hjm
    rw[getElem!_pos d m (by omega),← hj]
    simpa using this
   ·cases hj
  rw[compactUpTo_succ,hmt]
  by_cases hk:keeps d m=true
  ·rw[if_pos hk]
   refine⟨?_,fun x=>by rw[List.mem_append,List.mem_append,h2]⟩
   rw[List.pairwise_append]
   refine⟨h1,by simp,fun x hx y hy=>?_⟩
   rw[List.mem_singleton] at hy
   subst hy
   have hx2:=(h2 x).1 hx
   have hxle:=hle x hx2
   have hm0:m≠0:=fun e=>by rw[e] at hx2;simp at hx2
   have hne:d[m]!≠d[m-1]!:=by simpa [keeps,hm0] using hk
   have hx3:x≤d[m-1]!:=by
    obtain⟨j,hj⟩:=List.getElem?_of_mem hx2
    rw[List.getElem?_take] at hj
    split at hj
    ·rename_i hjm
     have hjd:j<d.toList.length:=by simp;omega
     rw[List.getElem?_eq_getElem hjd,Option.some.injEq] at hj
     rw[getElem!_pos d (m-1) (by omega),← hj]
     by_cases e:j=m-1
     ·subst e;simp
     ·have:=List.pairwise_iff_getElem.1 hs j (m-1) hjd (by simp;omega) (by omega)
      simpa using this
    ·cases hj
   have hle2:d[m-1]!≤d[m]!:=by
    have:=List.pairwise_iff_getElem.1 hs (m-1) m (by simp;omega) (by simp;omega) (by omega)
    rw[getElem!_pos d (m-1) (by omega),getElem!_pos d m (by omega)]
    simpa using this
   omega
  ·rw[if_neg hk,List.append_nil]
   refine⟨h1,fun x=>?_⟩
   rw[h2,List.mem_append]
   refine⟨.inl,fun h=>h.elim id fun h=>?_⟩
   rw[List.mem_singleton] at h
   subst h
   have hm0:m≠0:=fun e=>hk (by subst e;simp[keeps])
   have he:d[m]! = d[m-1]!:=by simpa [keeps,hm0] using hk
   rw[he,getElem!_pos d (m-1) (by omega)]
   rw[List.mem_iff_getElem?]
   exact⟨m-1,by rw[List.getElem?_take,if_pos (by omega)];simp⟩
def G7 (x y:Int):Bool:=decide (x≤y)
open Go.Lib in
theorem yD (r:List Nat):compactUpTo ((r.map fun n:Nat=>(n:Int)).mergeSort G7).toArray ((r.map fun n:Nat=>(n:Int)).mergeSort G7).toArray.size=(gL r).map fun n:Nat=>(n:Int):=by
 have hs:((r.map fun n:Nat=>(n:Int)).mergeSort G7).Pairwise (·≤·):=by
  have:=List.pairwise_mergeSort (le:=G7) (fun a b c h1 h2=>by simp only[G7,decide_eq_true_eq] at *;omega) (fun a b=>by simp only[G7,Bool.or_eq_true,decide_eq_true_eq];omega) (r.map fun n:Nat=>(n:Int))
  exact this.imp fun h=>by simpa [G7] using h
 obtain⟨h1,h2⟩:=qz ((r.map fun n:Nat=>(n:Int)).mergeSort G7).toArray hs _ (Nat.le_refl _)
 refine Bn h1 ?_ fun x=>?_
 ·rw[List.pairwise_map]
  exact (Dh r).imp fun h=>by omega
 ·rw[h2]
  simp only[List.size_toArray,List.take_length,List.mem_mergeSort,List.mem_map,D0]
end Go.bg
namespace Go.bg
open Go.Can
def dv (u:Un)(l:List Is):Nat:=(l.map fun y=>(aM u y).length).sum
theorem BF (u:Un)(l:List Is)(x:Is):(if x∈l then dv u l else dv u l+(aM u x).length)=dv u (cK l x):=by
 unfold cK
 split
 ·rfl
 ·simp[dv]
def zV (u:Un)(l:List Is)(A B:Nat):List CV:=de u++[.bw 5 0 l.length,.bw 6 0 A,.bw 7 0 B,.mp 4 (qx l 0),I (dv u l)]
def u6 (d:List Int):Ob:=⟨3,1,d.map I⟩
end Go.bg
namespace Go.Proofs.YtmnglemlimfpbaaGreat
open Go.Can Go.bg
def Hm (u:Un)(l:List Is)(cs:List (List Int))(r:List Nat):List (Nat×Ob):=[(0,⟨113,0,zV u l cs.length r.length⟩),(5,cL l),(6,ez cs),(7,dP r)]
def JX (c:List In)(pc n:Nat):List (Nat×CV):=[(22,I pc),(21,I c.length),(20,.ax (c.flatMap dt) c.length),(5,.bw 9 0 n),(3,.aq 8 0),(0,.aq 0 0)]
structure ExI (u:Un)(x:Is)(c:List In)(r0:Nat)(S:List Is×List Int×List Nat)(pc:Nat)(l:List Is)(r:List Nat)(d:List Int):Prop where
 le:pc≤c.length
 inv:lR u l
 rl:r.length≤r0+pc
 dl:d.length=pc
 e1:S.1=(ov x (c.drop pc) l r).1
 e2:S.2.1=d++(ov x (c.drop pc) l r).2.1
 e3:S.2.2=(ov x (c.drop pc) l r).2.2
def J49 (u:Un)(x:Is)(cs:List (List Int))(c:List In)(r0:Nat)(S:List Is×List Int×List Nat)(m:Nat)(s:St):Prop:=∃ pc l r d,m=c.length-pc∧ExI u x c r0 S pc l r d∧
 s=⟨JX c pc d.length,Hm u l cs r++[(8,⟨74,0,cg x⟩),(9,u6 d)],10⟩
set_option maxHeartbeats 4000000 in
theorem zN (u:Un)(hu:ox u)(l:List Is)(hI:lR u l)(x:Is)(hx:qh u x)(cs:List (List Int))(hcs:cs.length≤1000)(r:List Nat)(hr:r.length≤100000) :
  gQ Tryz.prog aj 49 [.aq 0 0,.agg (cg x)] (qN u l 1 cs.length r.length (ez cs) (dP r) (dv u l)) 5 [4]
   (iR (.bool true) (Hm u (ov x (aM u x) l r).1 (cs++[(ov x (aM u x) l r).2.1]) (ov x (aM u x) l r).2.2) 8):=by
 obtain⟨⟨pq,hpq,hll⟩,hlm⟩:=id hx
 have hcode:aM u x=pq.code:=by simp only[aM,hpq]
 have hpl:=(List.getElem?_eq_some_iff.1 hpq).1
 have hdr:=bG (f:=kX) (n:=5) eU hpq 4 (by omega)
 have hprb:=hu.pr pq (List.mem_of_getElem? hpq)
 have tu:=dD u
 have tis:=ay aO l
 have tcs:=eg cs
 have tr:=ch r
 have tx:=aO x
 have tco:=aP pq.code
 rw[hcode]
 refine gQ.iN Tryz.func49 rfl (by kernel_rfl) (by simp[Tryz.ntmps49]) fun C hC hC0 hM=>?_
 rw[Tryz.ntmps49] at hC
 simp only[qN,lp,de,cg,List.cons_append,List.nil_append,ints]
 simp only[de,ints] at tu
 refine T.seq (T.go' aa ?_)
 simp[hC]
 refine T.seq (T.go' aa ?_)
 simp[hC]
 refine T.seq (T.seq (T.rx aa follows [0,1,2,3,4,5,6,7,8,9,10,11] [] (by kernel_rfl) ?_))
 simp[hC,hpl,hdr,kX]
 refine T.block ?_
 have tgs:trees (u.gs.map (CV.int .i64))=true:=ef u.gs
 have rcs:=fun ρ=>az ρ _ tcs
 have ris:=fun ρ=>az ρ _ tis
 have rr:=fun ρ=>az ρ _ tr
 have tnx:=aN x.aE
 simp only[aZ,tree] at tnx
 refine T.aS (J49 u x cs pq.code r.length (ov x pq.code l r)) (n:=pq.code.length) ?_ ?_
 ·refine ae.le (Le.own 5 3 1 rfl) ?_
  simp only[cL,ez,dP,aZ]
  simp[St.own]
  refine ae.le (Le.norm [22,21,20,5,3,0] [(0,0),(1,5),(2,6),(3,7),(4,4),(5,8),(18,9)] 5 10 (by first | rfl | decide) (by simp[assoc]) (by simp[ca,lN,ky,tree,assoc,-List.all_eq_true,-List.all_flatMap,aA tcs,aA tis,aA tr]) (by omega)) ?_
  simp[cW,bD,bJ,dr,fx,assoc,rcs,ris,rr]
  refine ae.here ⟨0,l,r,[],by omega,⟨by omega,hI,by omega,rfl,rfl,by simp,rfl⟩,?_⟩
  simp[JX,Hm,zV,de,ints,cL,ez,dP,u6,cg,aZ]
 ·rintro m s ⟨pc,l',r',d,rfl,⟨v1,v2,v3,v4,v5,v6,v7⟩,rfl⟩
  have hl':=dG hu v2.nd v2.v
  have tis':=ay aO l'
  have tr':=ch r'
  have tD:=ef d
  have hlc:=hprb.2.2.2.2
  have wpc:=db ((pc:Int)+1) (by omega) (by omega)
  simp only[JX,Hm,zV,u6,de,ints,cg,List.cons_append,List.nil_append]
  by_cases tJ:pc<pq.code.length
  ·obtain⟨ins,hins⟩:∃ ins,pq.code[pc]? = some ins:=⟨_,List.getElem?_eq_getElem tJ⟩
   rw[List.drop_eq_getElem_cons tJ,(List.getElem?_eq_some_iff.1 hins).2] at v5 v6 v7
   have hcalP:fS u x pc=eT x ins:=by simp[fS,hcode,hins,show ¬ (pc:Int)<0 by omega]
   have hcal:=qe u hu x hx pc
   rw[hcalP] at hcal
   have hdc:=aV (f:=dt) (n:=12) gz hins
   have hon:=sI ins
   have tin:=eO ins
   obtain⟨zc,hzc,hzl⟩:=p6 ins
   obtain⟨c1,c2,c3,c4,c5,c6,c7,c8,c9,c10,c11,rfl⟩:=D4 hzl
   rw[hzc] at hdc hon tin
   simp only[List.all_cons,List.all_nil,Bool.and_true,Bool.and_eq_true] at hon
   obtain⟨_,o1,o2,o3,o4,o5,o6,o7,o8,o9,o10,o11⟩:=hon
   have bd1:(pc+1)*8≤140737488355328:=by omega
   have targ:trees [gq u,.agg (cg x),I pc]=true:=by
    simp only[gq,de,ints,trees,tree,aO,Bool.and_self]
   simp only[gq,de,cg,ints] at hcal targ
   refine T.seq (T.go' aa ?_)
   simp[hC,tJ]
   refine T.seq (T.cond (b:=true) rfl (T.skip ?_))
   simp
   refine T.seq (T.block ?_)
   refine T.seq (T.go' aa ?_)
   simp[hC,tJ,hdc]
   refine T.seq (T.rx aa follows [0,1,2,3,4,5,10,6,7,8,9,11,12] [(3,10),(4,10),(10,6)] (by kernel_rfl) ?_)
   simp[hC]
   refine RX.call rfl rfl rfl rfl rfl targ hcal ?_
   cases hce:eT x ins with
   | none=>
    simp only[hce,ov] at v5 v6 v7
    simp[jH]
    refine T.seq (T.go' aa ?_)
    simp[hC]
    refine T.seq (T.seq (T.go' aa ?_))
    simp[hC]
    refine T.cond (b:=false) rfl (T.skip ?_)
    simp
    refine T.go' aa ?_
    simp[hC,bd1,v4,aX]
    refine T.go' aa ?_
    simp[hC,wpc]
    have rcs:=fun ρ=>az ρ _ tcs
    have ris:=fun ρ=>az ρ _ tis'
    have rr:=fun ρ=>az ρ _ tr'
    have tD1:trees (d.map I++[I (-1)])=true:=by rw[bh,tD];rfl
    have rd:=fun ρ=>az ρ _ tD1
    refine⟨pq.code.length-(pc+1),by omega,?_⟩
    simp only[cL,ez,dP,aZ]
    refine ae.le (Le.norm [22,21,20,5,3,0] [(0,0),(5,5),(6,6),(7,7),(4,4),(8,8),(25,9)] 5 10 (by first | rfl | decide) (by simp[assoc]) (by simp[ca,lN,ky,tree,assoc,-List.all_eq_true,-List.all_flatMap,aA tcs,aA tis',aA tr',aA tD1]) (by omega)) ?_
    simp[cW,bD,bJ,dr,fx,assoc,rcs,ris,rr,rd]
    refine ae.here ⟨pc+1,l',r',d++[-1],rfl,⟨by omega,v2,by omega,by simp[v4],v5,by rw[v6];simp,v7⟩,?_⟩
    simp[JX,Hm,zV,de,ints,cL,ez,dP,u6,cg,aZ,v4]
   | some y=>
    have hyv:=te hu hx (by rw[hcode];exact List.mem_of_getElem? hins) hce
    simp only[hce,ov] at v5 v6 v7
    simp[jH,cg]
    refine T.seq (T.go' aa ?_)
    simp[hC]
    refine T.seq (T.seq (T.go' aa ?_))
    simp[hC]
    refine T.cond (b:=true) rfl ?_
    simp
    have rcs:=fun ρ=>az ρ _ tcs
    have ris:=fun ρ=>az ρ _ tis'
    have rr:=fun ρ=>az ρ _ tr'
    have rd:=fun ρ=>az ρ _ tD
    have tny:=aN y.aE
    simp only[aZ,tree] at tny
    rw[← hzc]
    have tin:=eO ins
    have rin:=fun ρ=>az ρ _ tin
    simp only[cL,ez,dP,aZ]
    refine T.le (Le.norm [22,21,20,8,7,6,5,3,0] [(0,0),(5,5),(6,6),(7,7),(4,4),(8,8),(9,9),(10,10),(21,11)] 5 12 (by first | rfl | decide) (by simp[assoc]) (by simp[ca,lN,ky,tree,assoc,-List.all_eq_true,-List.all_flatMap,aA tcs,aA tis',aA tr',aA tD,aA tin]) (by omega)) ?_
    simp[cW,bD,bJ,dr,fx,assoc,rcs,ris,rr,rd,rin]
    have hsi:dv u l' + (aM u y).length≤8000:=by
     have h1:=k9 hu v2.nd v2.v
     have h2:=kQ hu y
     simp only[dv]
     omega
    have hadd:=Fl u hu l' (by omega) v2.v y hyv (dv u l') hsi cs.length r'.length (ez cs) (dP r') tcs tr'
    rw[BF] at hadd
    have n9:=dz _ tD
    have n10:=dz _ tin
    have q1:=cC 5 _ tcs
    have q2:=cC 5 _ tr'
    have q3:=cC 5 _ tis'
    have q4:=cC 5 _ tgs
    have q5:=cC 5 _ (eJ u.ms)
    have q6:=cC 5 _ (ay mJ u.ps)
    have tnyn:=ch y.aE
    have q7:=cC 5 _ tnyn
    simp only[qN,lp,de,cg,cL,ez,dP,aZ,ints,List.cons_append,List.nil_append] at hadd
    refine T.seq (T.seq (T.go' aa ?_))
    simp[hC]
    refine TL.z6 aa [0,5,6,7,4] [0,5,6,7] 5 1 (by simp) hadd (by intro k hk;simp[bZ] at hk;subst hk;exact .inr (hM 4 (by simp))) (by intro k hk;simp[bZ] at hk;subst hk;exact⟨0,_,rfl,by simp[ja]⟩) (by simp[cE,cZ]) (by simp[cN,gD,cE,cZ,n9,n10]) rfl (by rfl) (by simp[hC]) rfl rfl (by simp[aK,ev,assoc,bJ,dr,bZ]) (by simp[dE,assoc,bF,bD,bJ,dr,bZ,rcs,ris,rr]) (by simp[aC,aG]) (by simp[cF,aC,aG,af tcs,af tis',af tr',-List.all_eq_true,-List.all_flatMap,-List.all_map]) rfl (by simp[jy,bF,bD,bZ,cN,gD]) (TL.go' aa ?_)
    simp[hC,bF,bD,bJ,dr,bZ,rcs,rr]
    have hI2:lR u (cK l' y):=⟨jz v2.nd,wU v2.v hyv⟩
    generalize cK l' y=L at v5 v6 v7 hI2
    generalize cM L y=k at v5 v6 v7
    have tisL:=ay aO L
    have risL:=fun ρ=>az ρ _ tisL
    simp only[risL]
    have hneg:¬ ((k:Nat):Int)<0:=by omega
    have hopg:(tZ ins == 3)=gx ins:=by
     cases ins with
     | call g _ _ _=>cases g<;>rfl
     | _=>simp[eT] at hce
    have bd2:(r'.length+1)*8≤140737488355328:=by omega
    refine T.seq (T.go' aa ?_)
    simp[hC,hneg]
    refine T.cond (b:=false) (by simp[ev,assoc]) (T.skip ?_)
    simp
    rw[hzc]
    refine T.seq (T.go' aa ?_)
    simp[hC,hopg]
    cases hgo:gx ins with
    | false=>
     simp only[hgo,Bool.false_eq_true,if_false] at v5 v6 v7
     refine T.cond (b:=false) (by simp[ev,assoc]) (T.skip ?_)
     simp
     refine T.go' aa ?_
     simp[hC,bd1,v4,aX]
     refine T.go' aa ?_
     simp[hC,wpc]
     have tD1:trees (d.map I++[I k])=true:=by rw[bh,tD];rfl
     have rd1:=fun ρ=>az ρ _ tD1
     refine⟨pq.code.length-(pc+1),by omega,?_⟩
     refine ae.le (Le.norm [22,21,20,5,3,0] [(0,0),(12,5),(6,6),(7,7),(4,4),(8,8),(14,9)] 5 10 (by first | rfl | decide) (by simp[assoc]) (by simp[ca,lN,ky,tree,assoc,-List.all_eq_true,-List.all_flatMap,aA tcs,aA tisL,aA tr',aA tD1]) (by omega)) ?_
     simp[cW,bD,bJ,dr,fx,assoc,rcs,risL,rr,rd1]
     refine ae.here ⟨pc+1,L,r',d++[(k:Int)],rfl,⟨by omega,hI2,by omega,by simp[v4],v5,by rw[v6];simp,v7⟩,?_⟩
     simp[JX,Hm,zV,de,ints,cL,ez,dP,u6,cg,aZ,v4]
    | true=>
     simp only[hgo,if_true] at v5 v6 v7
     refine T.cond (b:=true) (by simp[ev,assoc]) ?_
     simp
     refine T.go' aa ?_
     simp[hC,bd2,aX]
     refine T.go' aa ?_
     simp[hC,bd1,v4,aX]
     refine T.go' aa ?_
     simp[hC,wpc]
     have tD1:trees (d.map I++[I k])=true:=by rw[bh,tD];rfl
     have rd1:=fun ρ=>az ρ _ tD1
     have tR1:trees ((r'.map fun n:Nat=>I n)++[I k])=true:=by rw[bh,tr'];rfl
     have rr1:=fun ρ=>az ρ _ tR1
     refine⟨pq.code.length-(pc+1),by omega,?_⟩
     refine ae.le (Le.norm [22,21,20,5,3,0] [(0,0),(12,5),(6,6),(14,7),(4,4),(8,8),(16,9)] 5 10 (by first | rfl | decide) (by simp[assoc]) (by simp[ca,lN,ky,tree,assoc,-List.all_eq_true,-List.all_flatMap,aA tcs,aA tisL,aA tR1,aA tD1]) (by omega)) ?_
     simp[cW,bD,bJ,dr,fx,assoc,rcs,risL,rr1,rd1]
     refine ae.here ⟨pc+1,L,r'++[k],d++[(k:Int)],rfl,⟨by omega,hI2,by simp;omega,by simp[v4],v5,by rw[v6];simp,v7⟩,?_⟩
     simp[JX,Hm,zV,de,ints,cL,ez,dP,u6,cg,aZ,v4]
  ·have hpe:pc=pq.code.length:=by omega
   subst hpe
   rw[List.drop_length] at v5 v6 v7
   simp only[ov,List.append_nil] at v5 v6 v7
   have tkD:List.take pq.code.length (d.map I)=d.map I:=List.take_of_length_le (by simp;omega)
   have bd3:(cs.length+1)*24≤140737488355328:=by omega
   have hints:(CV.ax (d.map I) pq.code.length)=ints d:=by rw[ints,v4]
   refine T.seq (T.go' aa ?_)
   simp[hC]
   refine T.seq (T.cond (b:=false) rfl ?_)
   simp
   refine T.exit ?_
   simp
   refine T.le (Le.eM (o:=9) rfl tD) ?_
   simp[v4,tkD,cw tcs,cw tis',cw tr',ez,cL,dP,aZ]
   rw[hints]
   refine T.seq (T.go' aa ?_)
   simp[hC,bd3,aX]
   refine T.seq (T.go' aa ?_)
   simp[hC]
   refine T.ret ?_
   have tC1:trees (cs.map ints++[ints d])=true:=by rw[bh,tcs,trees,fv];rfl
   have rC1:=fun ρ=>az ρ _ tC1
   have ris:=fun ρ=>az ρ _ tis'
   have rr:=fun ρ=>az ρ _ tr'
   rw[v5,v6,v7]
   refine ae.le (Le.norm [4] [(0,0),(5,5),(11,6),(7,7),(4,4)] 5 8 (by first | rfl | decide) (by simp[assoc]) (by simp[ca,lN,ky,tree,assoc,-List.all_eq_true,-List.all_flatMap,aA tC1,aA tis',aA tr']) (by omega)) ?_
   simp[cW,bD,bJ,dr,fx,assoc,rC1,ris,rr]
   refine ae.here ?_
   simp[iR]
end Go.Proofs.YtmnglemlimfpbaaGreat
