/- noExpr, noRef, okRef, okStmts. -/
import Derived.Test.YtmnglemlimfpbaaGreatZ29
namespace Go.Proofs.YtmnglemlimfpbaaGreat
open Go.Can Go.aX
theorem ru:ae Tryz.prog 125 [.agg (aZ .zero)] (.bool true):=by
 refine ae.aB ag Tryz.func125 rfl yAb (by simp[Tryz.ntmps125]) rfl fun C hC hC0=>?_
 rw[Tryz.ntmps125] at hC
 apply au
 simp[hC,aZ,eS]
 apply au
 simp[hC,iC]
 apply T.ret
 apply aa.here
 simp[Tryz.results125]
theorem hZ:ae Tryz.prog 127 [.agg k8] (.bool true):=by
 refine ae.aB ag Tryz.func127 rfl yAb (by simp[Tryz.ntmps127]) rfl fun C hC hC0=>?_
 rw[Tryz.ntmps127] at hC
 apply au
 simp[hC,k8,eS]
 apply au
 simp[hC,iC]
 apply T.ret
 apply aa.here
 simp[Tryz.results127]
def RfR (r:Rf):Prop:=mO r.name∧∀ e,r.index=some e→ae Tryz.prog 124 [.agg (aZ e)] (.bool true)
theorem uI (r:Rf)(h:RfR r):ae Tryz.prog 126 [.agg (kZ r)] (.bool true):=by
 obtain⟨nm,ix⟩:=r
 obtain⟨h1,h2⟩:=h
 have hn:=jH nm h1.1 h1.2
 refine ae.aB ag Tryz.func126 rfl yAb (by simp[Tryz.ntmps126]) rfl fun C hC hC0=>?_
 rw[Tryz.ntmps126] at hC
 cases ix with
 | none=>
  apply au
  simp[hC,kZ,mZ]
  apply au
  simp[hC]
  refine cH yAd (hn) ?_
  simp[hC]
  apply T.ret
  apply aa.here
  simp[Tryz.results126]
 | some e=>
  have hv:=h2 e rfl
  apply au
  simp[hC,kZ,mZ]
  apply au
  simp[hC]
  refine cH yAd (hn) ?_
  simp[hC]
  refine TL.cC yAc rfl rfl rfl rfl (bF.of rfl yBp (hv)) (TL.go' ag ?_)
  simp[hC]
  apply T.ret
  apply aa.here
  simp[Tryz.results126]
def okA (a:Ar):Prop:=match a with
 | .uJ r=>RfR r
 | .exp e=>ae Tryz.prog 124 [.agg (aZ e)] (.bool true)
def J90 (l:List Sm)(deep:Nat)(n:Nat)(s:St):Prop:=∃ i:Nat,n=l.length-i∧i≤l.length∧s=⟨[(5,I i),(0,.av (bA l) l.length),(1,I deep)],[],0⟩
set_option maxHeartbeats 8000000 in
theorem yo (l:List Sm)(deep:Nat)(hd:deep<20)(hl:l.length≤100000)
  (h:∀ s∈l,(match s with
   | .gZ nm e=>mO nm∧ae Tryz.prog 124 [.agg (aZ e)] (.bool true)
   | .iF nm e=>mO nm∧ae Tryz.prog 124 [.agg (aZ e)] (.bool true)
   | .dY _ nm al=>mO nm∧al.length≤1000∧∀ a∈al,okA a
   | .dB _ r=>RfR r
   | .lG e th el=>ae Tryz.prog 124 [.agg (aZ e)] (.bool true)∧ae Tryz.prog 90 [.av (bA th) th.length,I ((deep+1:Nat))] (.bool true)∧ae Tryz.prog 90 [.av (bA el) el.length,I ((deep+1:Nat))] (.bool true)
   | .cJ e th=>ae Tryz.prog 124 [.agg (aZ e)] (.bool true)∧ae Tryz.prog 90 [.av (bA th) th.length,I ((deep+1:Nat))] (.bool true)
   | .jC=>True)):ae Tryz.prog 90 [.av (bA l) l.length,I deep] (.bool true):=by
 have hflat:=fun (i:Nat) (x:Sm) (h:l[i]? = some x)=>aE (f:=ir) (n:=11) kI (m:=l) h
 rw[← ov] at hflat
 have hd24:¬ (24:Int)≤deep:=by omega
 have wd:=ct ((deep:Int)+1) yA yA
 refine ae.aB ag Tryz.func90 rfl yAb (by simp[Tryz.ntmps90]) rfl fun C hC hC0=>?_
 rw[Tryz.ntmps90] at hC
 apply au
 simp[hC]
 apply aJ
 simp[hC,hd24]
 refine bj ?_
 simp
 apply T.skip
 simp
 apply aJ
 simp[hC]
 apply T.block
 refine T.aL (J90 l deep) (n:=l.length) ?_ ?_
 ·refine aa.le (Le.env [5,0,1]) (aa.here ⟨0,by omega,by omega,?_⟩)
  simp
 ·rintro n s ⟨i,rfl,hi,rfl⟩
  by_cases hil:i<l.length
  ·obtain⟨x,hx⟩:∃ x,l[i]? = some x:=⟨l[i],List.getElem?_eq_getElem hil⟩
   have hdr:=hflat i x hx
   have hh:=h x (List.mem_of_getElem? hx)
   have wi:=ct ((i:Int)+1) yA yA
   apply aJ
   simp[hC,hil]
   refine iv ?_
   simp
   apply fq
   cases x with
   | gZ nm e=>
    obtain⟨h1,h2⟩:=hh
    have hn:=jH nm h1.1 h1.2
    simp only[ir,bL e,k8,List.cons_append,List.nil_append] at hdr
    rw[bL e] at h2
    apply au
    simp[hC,hil,hdr]
    apply au
    simp[hC]
    apply au
    simp[hC]
    apply au
    simp[hC]
    apply au
    simp[hC]
    refine T.le (Le.trim [11,10,9,8,7,6,5,0,1] [0] 1 yAa yA) ?_
    simp
    apply aJ
    simp[hC]
    refine TL.cC yAc rfl rfl rfl rfl (bF.of rfl yAd (hn)) (TL.go' ag ?_)
    simp[hC]
    refine TL.cC yAc rfl rfl rfl rfl (bF.of rfl yAd (h2)) (TL.go' ag ?_)
    simp[hC]
    refine TL.cC yAc rfl rfl rfl rfl (bF.of rfl yAd (hZ)) (TL.go' ag ?_)
    simp[hC]
    refine bj ?_
    simp
    apply T.skip
    simp
    refine T.cut (fun s=>s=⟨[(7,I 1),(6,.aw 0 0),(5,I i),(0,.av (bA l) l.length),(1,I deep)],[(0,⟨188,0,[I 1,.str nm,I e.op,I e.n,.str e.name,.av (e.args.flatMap aZ) e.args.length,.str eS,.av [] 0,.av [] 0,.av [] 0,.av [] 0]⟩)],1⟩) ?_ ?_
    ·apply au
     simp[hC]
     apply T.block
     refine T.aL (fun m s=>s=⟨[(12,.int .i64 0),(7,I 1),(6,.aw 0 0),(5,I i),(0,.av (bA l) l.length),(1,I deep)],[(0,⟨188,0,[I 1,.str nm,I e.op,I e.n,.str e.name,.av (e.args.flatMap aZ) e.args.length,.str eS,.av [] 0,.av [] 0,.av [] 0,.av [] 0]⟩)],1⟩) (n:=0) ?_ ?_
     ·refine aa.trim [12,7,6,5,0,1] [0] 1 yAa yA ?_
      simp
     ·rintro m s rfl
      apply aJ
      simp[hC]
      refine bj ?_
      simp
      apply T.exit
      simp
      refine aa.trim [7,6,5,0,1] [0] 1 yAa yA ?_
      simp
    rintro s rfl
    apply au
    simp[hC]
    apply au
    simp[hC]
    refine bj ?_
    simp
    apply T.skip
    simp
    apply aO
    simp[hC,wi]
    refine⟨l.length-(i+1),by omega,?_⟩
    refine aa.trim [5,0,1] [] 0 yAa yA ⟨i+1,rfl,by omega,?_⟩
    simp
   | iF nm e=>
    obtain⟨h1,h2⟩:=hh
    have hn:=jH nm h1.1 h1.2
    simp only[ir,bL e,k8,List.cons_append,List.nil_append] at hdr
    rw[bL e] at h2
    apply au
    simp[hC,hil,hdr]
    apply au
    simp[hC]
    apply au
    simp[hC]
    apply au
    simp[hC]
    apply au
    simp[hC]
    refine T.le (Le.trim [11,10,9,8,7,6,5,0,1] [0] 1 yAa yA) ?_
    simp
    apply aJ
    simp[hC]
    refine TL.cC yAc rfl rfl rfl rfl (bF.of rfl yAd (hn)) (TL.go' ag ?_)
    simp[hC]
    refine TL.cC yAc rfl rfl rfl rfl (bF.of rfl yAd (h2)) (TL.go' ag ?_)
    simp[hC]
    refine TL.cC yAc rfl rfl rfl rfl (bF.of rfl yAd (hZ)) (TL.go' ag ?_)
    simp[hC]
    refine bj ?_
    simp
    apply T.skip
    simp
    refine T.cut (fun s=>s=⟨[(7,I 2),(6,.aw 0 0),(5,I i),(0,.av (bA l) l.length),(1,I deep)],[(0,⟨188,0,[I 2,.str nm,I e.op,I e.n,.str e.name,.av (e.args.flatMap aZ) e.args.length,.str eS,.av [] 0,.av [] 0,.av [] 0,.av [] 0]⟩)],1⟩) ?_ ?_
    ·apply au
     simp[hC]
     apply T.block
     refine T.aL (fun m s=>s=⟨[(12,.int .i64 0),(7,I 2),(6,.aw 0 0),(5,I i),(0,.av (bA l) l.length),(1,I deep)],[(0,⟨188,0,[I 2,.str nm,I e.op,I e.n,.str e.name,.av (e.args.flatMap aZ) e.args.length,.str eS,.av [] 0,.av [] 0,.av [] 0,.av [] 0]⟩)],1⟩) (n:=0) ?_ ?_
     ·refine aa.trim [12,7,6,5,0,1] [0] 1 yAa yA ?_
      simp
     ·rintro m s rfl
      apply aJ
      simp[hC]
      refine bj ?_
      simp
      apply T.exit
      simp
      refine aa.trim [7,6,5,0,1] [0] 1 yAa yA ?_
      simp
    rintro s rfl
    apply au
    simp[hC]
    apply au
    simp[hC]
    refine bj ?_
    simp
    apply T.skip
    simp
    apply aO
    simp[hC,wi]
    refine⟨l.length-(i+1),by omega,?_⟩
    refine aa.trim [5,0,1] [] 0 yAa yA ⟨i+1,rfl,by omega,?_⟩
    simp
   | jC=>
    have hno:=ru
    simp only[ir,aZ,k8,List.cons_append,List.nil_append] at hdr hno
    apply au
    simp[hC,hil,hdr]
    apply au
    simp[hC]
    apply au
    simp[hC]
    apply au
    simp[hC]
    apply au
    simp[hC]
    refine T.le (Le.trim [11,10,9,8,7,6,5,0,1] [0] 1 yAa yA) ?_
    simp
    apply aJ
    simp[hC,jS,eS]
    refine TL.cC yAc rfl rfl rfl rfl (bF.of rfl yAd (hno)) (TL.go' ag ?_)
    simp[hC]
    refine TL.cC yAc rfl rfl rfl rfl (bF.of rfl yAd (hZ)) (TL.go' ag ?_)
    simp[hC]
    refine bj ?_
    simp
    apply T.skip
    simp
    refine T.cut (fun s=>s=⟨[(7,I 9),(6,.aw 0 0),(5,I i),(0,.av (bA l) l.length),(1,I deep)],[(0,⟨188,0,[I 9,.str ⟨#[]⟩,I 0,I 0,.str ⟨#[]⟩,.av [] 0,.str ⟨#[]⟩,.av [] 0,.av [] 0,.av [] 0,.av [] 0]⟩)],1⟩) ?_ ?_
    ·apply au
     simp[hC]
     apply T.block
     refine T.aL (fun m s=>s=⟨[(12,.int .i64 0),(7,I 9),(6,.aw 0 0),(5,I i),(0,.av (bA l) l.length),(1,I deep)],[(0,⟨188,0,[I 9,.str ⟨#[]⟩,I 0,I 0,.str ⟨#[]⟩,.av [] 0,.str ⟨#[]⟩,.av [] 0,.av [] 0,.av [] 0,.av [] 0]⟩)],1⟩) (n:=0) ?_ ?_
     ·refine aa.trim [12,7,6,5,0,1] [0] 1 yAa yA ?_
      simp
     ·rintro m s rfl
      apply aJ
      simp[hC]
      refine bj ?_
      simp
      apply T.exit
      simp
      refine aa.trim [7,6,5,0,1] [0] 1 yAa yA ?_
      simp
    rintro s rfl
    apply au
    simp[hC]
    apply au
    simp[hC]
    refine bj ?_
    simp
    apply T.skip
    simp
    apply aO
    simp[hC,wi]
    refine⟨l.length-(i+1),by omega,?_⟩
    refine aa.trim [5,0,1] [] 0 yAa yA ⟨i+1,rfl,by omega,?_⟩
    simp
   | dB u r=>
    have hno:=ru
    have hok:=uI r hh
    obtain⟨rn,ri⟩:=r
    obtain⟨q1,q2,hq⟩:∃ cs n,mZ ri=.av cs n:=by cases ri<;>exact⟨_,_,rfl⟩
    simp only[kZ,hq] at hok
    simp only[ir,aZ,kZ,hq,List.cons_append,List.nil_append] at hdr hno
    cases u with
    | false=>
     have e5:(if false=true then (6:Int) else 5)=5:=rfl
     rw[e5] at hdr
     apply au
     simp[hC,hil,hdr]
     apply au
     simp[hC]
     apply au
     simp[hC]
     apply au
     simp[hC]
     apply au
     simp[hC]
     refine T.le (Le.trim [11,10,9,8,7,6,5,0,1] [0] 1 yAa yA) ?_
     simp
     apply aJ
     simp[hC,jS,eS]
     refine TL.cC yAc rfl rfl rfl rfl (bF.of rfl yAd (hno)) (TL.go' ag ?_)
     simp[hC]
     refine TL.cC yAc rfl rfl rfl rfl (bF.of rfl yAd (hok)) (TL.go' ag ?_)
     simp[hC]
     refine bj ?_
     simp
     apply T.skip
     simp
     refine T.cut (fun s=>s=⟨[(7,I 5),(6,.aw 0 0),(5,I i),(0,.av (bA l) l.length),(1,I deep)],[(0,⟨188,0,[I 5,.str ⟨#[]⟩,I 0,I 0,.str ⟨#[]⟩,.av [] 0,.str rn,.av q1 q2,.av [] 0,.av [] 0,.av [] 0]⟩)],1⟩) ?_ ?_
     ·apply au
      simp[hC]
      apply T.block
      refine T.aL (fun m s=>s=⟨[(12,.int .i64 0),(7,I 5),(6,.aw 0 0),(5,I i),(0,.av (bA l) l.length),(1,I deep)],[(0,⟨188,0,[I 5,.str ⟨#[]⟩,I 0,I 0,.str ⟨#[]⟩,.av [] 0,.str rn,.av q1 q2,.av [] 0,.av [] 0,.av [] 0]⟩)],1⟩) (n:=0) ?_ ?_
      ·refine aa.trim [12,7,6,5,0,1] [0] 1 yAa yA ?_
       simp
      ·rintro m s rfl
       apply aJ
       simp[hC]
       refine bj ?_
       simp
       apply T.exit
       simp
       refine aa.trim [7,6,5,0,1] [0] 1 yAa yA ?_
       simp
     rintro s rfl
     apply au
     simp[hC]
     apply au
     simp[hC]
     refine bj ?_
     simp
     apply T.skip
     simp
     apply aO
     simp[hC,wi]
     refine⟨l.length-(i+1),by omega,?_⟩
     refine aa.trim [5,0,1] [] 0 yAa yA ⟨i+1,rfl,by omega,?_⟩
     simp
    | true=>
     have e5:(if true=true then (6:Int) else 5)=6:=rfl
     rw[e5] at hdr
     apply au
     simp[hC,hil,hdr]
     apply au
     simp[hC]
     apply au
     simp[hC]
     apply au
     simp[hC]
     apply au
     simp[hC]
     refine T.le (Le.trim [11,10,9,8,7,6,5,0,1] [0] 1 yAa yA) ?_
     simp
     apply aJ
     simp[hC,jS,eS]
     refine TL.cC yAc rfl rfl rfl rfl (bF.of rfl yAd (hno)) (TL.go' ag ?_)
     simp[hC]
     refine TL.cC yAc rfl rfl rfl rfl (bF.of rfl yAd (hok)) (TL.go' ag ?_)
     simp[hC]
     refine bj ?_
     simp
     apply T.skip
     simp
     refine T.cut (fun s=>s=⟨[(7,I 6),(6,.aw 0 0),(5,I i),(0,.av (bA l) l.length),(1,I deep)],[(0,⟨188,0,[I 6,.str ⟨#[]⟩,I 0,I 0,.str ⟨#[]⟩,.av [] 0,.str rn,.av q1 q2,.av [] 0,.av [] 0,.av [] 0]⟩)],1⟩) ?_ ?_
     ·apply au
      simp[hC]
      apply T.block
      refine T.aL (fun m s=>s=⟨[(12,.int .i64 0),(7,I 6),(6,.aw 0 0),(5,I i),(0,.av (bA l) l.length),(1,I deep)],[(0,⟨188,0,[I 6,.str ⟨#[]⟩,I 0,I 0,.str ⟨#[]⟩,.av [] 0,.str rn,.av q1 q2,.av [] 0,.av [] 0,.av [] 0]⟩)],1⟩) (n:=0) ?_ ?_
      ·refine aa.trim [12,7,6,5,0,1] [0] 1 yAa yA ?_
       simp
      ·rintro m s rfl
       apply aJ
       simp[hC]
       refine bj ?_
       simp
       apply T.exit
       simp
       refine aa.trim [7,6,5,0,1] [0] 1 yAa yA ?_
       simp
     rintro s rfl
     apply au
     simp[hC]
     apply au
     simp[hC]
     refine bj ?_
     simp
     apply T.skip
     simp
     apply aO
     simp[hC,wi]
     refine⟨l.length-(i+1),by omega,?_⟩
     refine aa.trim [5,0,1] [] 0 yAa yA ⟨i+1,rfl,by omega,?_⟩
     simp
   | lG e th el=>
    obtain⟨h2,h3,h4⟩:=hh
    simp only[ir,bL e,k8,List.cons_append,List.nil_append] at hdr
    rw[bL e] at h2
    have c1:(((deep+1:Nat)):Int)=deep+1:=by omega
    rw[c1] at h3 h4
    apply au
    simp[hC,hil,hdr]
    apply au
    simp[hC]
    apply au
    simp[hC]
    apply au
    simp[hC]
    apply au
    simp[hC]
    refine T.le (Le.trim [11,10,9,8,7,6,5,0,1] [0] 1 yAa yA) ?_
    simp
    apply aJ
    simp[hC,jS,eS]
    refine TL.cC yAc rfl rfl rfl rfl (bF.of rfl yAd (h2)) (TL.go' ag ?_)
    simp[hC]
    refine TL.cC yAc rfl rfl rfl rfl (bF.of rfl yAd (hZ)) (TL.go' ag ?_)
    simp[hC]
    refine bj ?_
    simp
    apply T.skip
    simp
    refine T.cut (fun s=>s=⟨[(7,I 7),(6,.aw 0 0),(5,I i),(0,.av (bA l) l.length),(1,I deep)],[(0,⟨188,0,[I 7,.str ⟨#[]⟩,I e.op,I e.n,.str e.name,.av (e.args.flatMap aZ) e.args.length,.str ⟨#[]⟩,.av [] 0,.av [] 0,.av (bA th) th.length,.av (bA el) el.length]⟩)],1⟩) ?_ ?_
    ·apply au
     simp[hC]
     apply T.block
     refine T.aL (fun m s=>s=⟨[(12,.int .i64 0),(7,I 7),(6,.aw 0 0),(5,I i),(0,.av (bA l) l.length),(1,I deep)],[(0,⟨188,0,[I 7,.str ⟨#[]⟩,I e.op,I e.n,.str e.name,.av (e.args.flatMap aZ) e.args.length,.str ⟨#[]⟩,.av [] 0,.av [] 0,.av (bA th) th.length,.av (bA el) el.length]⟩)],1⟩) (n:=0) ?_ ?_
     ·refine aa.trim [12,7,6,5,0,1] [0] 1 yAa yA ?_
      simp
     ·rintro m s rfl
      apply aJ
      simp[hC]
      refine bj ?_
      simp
      apply T.exit
      simp
      refine aa.trim [7,6,5,0,1] [0] 1 yAa yA ?_
      simp
    rintro s rfl
    apply au
    simp[hC]
    by_cases hel:0<el.length
    ·apply au
     simp[hC,wd]
     refine TL.cC yAc rfl rfl rfl rfl (bF.of rfl yAd (h3)) (TL.go' ag ?_)
     simp[hC,hel,wd]
     refine TL.cC yAc rfl rfl rfl rfl (bF.of rfl yAd (h4)) (TL.go' ag ?_)
     simp[hC]
     refine bj ?_
     simp
     apply T.skip
     simp
     apply aO
     simp[hC,wi]
     refine⟨l.length-(i+1),by omega,?_⟩
     refine aa.trim [5,0,1] [] 0 yAa yA ⟨i+1,rfl,by omega,?_⟩
     simp
    ·apply au
     simp[hC,wd]
     refine TL.cC yAc rfl rfl rfl rfl (bF.of rfl yAd (h3)) (TL.go' ag ?_)
     simp[hC,hel]
     refine bj ?_
     simp
     apply T.skip
     simp
     apply aO
     simp[hC,wi]
     refine⟨l.length-(i+1),by omega,?_⟩
     refine aa.trim [5,0,1] [] 0 yAa yA ⟨i+1,rfl,by omega,?_⟩
     simp
   | cJ e th=>
    obtain⟨h2,h3⟩:=hh
    simp only[ir,bL e,k8,List.cons_append,List.nil_append] at hdr
    rw[bL e] at h2
    have c1:(((deep+1:Nat)):Int)=deep+1:=by omega
    rw[c1] at h3
    apply au
    simp[hC,hil,hdr]
    apply au
    simp[hC]
    apply au
    simp[hC]
    apply au
    simp[hC]
    apply au
    simp[hC]
    refine T.le (Le.trim [11,10,9,8,7,6,5,0,1] [0] 1 yAa yA) ?_
    simp
    apply aJ
    simp[hC,jS,eS]
    refine TL.cC yAc rfl rfl rfl rfl (bF.of rfl yAd (h2)) (TL.go' ag ?_)
    simp[hC]
    refine TL.cC yAc rfl rfl rfl rfl (bF.of rfl yAd (hZ)) (TL.go' ag ?_)
    simp[hC]
    refine bj ?_
    simp
    apply T.skip
    simp
    refine T.cut (fun s=>s=⟨[(7,I 8),(6,.aw 0 0),(5,I i),(0,.av (bA l) l.length),(1,I deep)],[(0,⟨188,0,[I 8,.str ⟨#[]⟩,I e.op,I e.n,.str e.name,.av (e.args.flatMap aZ) e.args.length,.str ⟨#[]⟩,.av [] 0,.av [] 0,.av (bA th) th.length,.av [] 0]⟩)],1⟩) ?_ ?_
    ·apply au
     simp[hC]
     apply T.block
     refine T.aL (fun m s=>s=⟨[(12,.int .i64 0),(7,I 8),(6,.aw 0 0),(5,I i),(0,.av (bA l) l.length),(1,I deep)],[(0,⟨188,0,[I 8,.str ⟨#[]⟩,I e.op,I e.n,.str e.name,.av (e.args.flatMap aZ) e.args.length,.str ⟨#[]⟩,.av [] 0,.av [] 0,.av (bA th) th.length,.av [] 0]⟩)],1⟩) (n:=0) ?_ ?_
     ·refine aa.trim [12,7,6,5,0,1] [0] 1 yAa yA ?_
      simp
     ·rintro m s rfl
      apply aJ
      simp[hC]
      refine bj ?_
      simp
      apply T.exit
      simp
      refine aa.trim [7,6,5,0,1] [0] 1 yAa yA ?_
      simp
    rintro s rfl
    apply au
    simp[hC]
    apply au
    simp[hC,wd]
    refine TL.cC yAc rfl rfl rfl rfl (bF.of rfl yAd (h3)) (TL.go' ag ?_)
    simp[hC]
    refine bj ?_
    simp
    apply T.skip
    simp
    apply aO
    simp[hC,wi]
    refine⟨l.length-(i+1),by omega,?_⟩
    refine aa.trim [5,0,1] [] 0 yAa yA ⟨i+1,rfl,by omega,?_⟩
    simp
   | dY g nm al=>
    obtain⟨h1,h2,h3⟩:=hh
    have hn:=jH nm h1.1 h1.2
    have hno:=ru
    simp only[ir,aZ,k8,List.cons_append,List.nil_append] at hdr hno
    have hafl:=fun (k:Nat) (a:Ar) (h:al[k]? = some a)=>aE (f:=oX) (n:=7) tu (m:=al) h
    have hafl1:=fun (k:Nat) (a:Ar) (h:al[k]? = some a)=>h3 a (List.mem_of_getElem? h)
    clear h3
    cases g with
    | false=>
     have e5:(if false=true then (4:Int) else 3)=3:=rfl
     rw[e5] at hdr
     apply au
     simp[hC,hil,hdr]
     apply au
     simp[hC]
     apply au
     simp[hC]
     apply au
     simp[hC]
     apply au
     simp[hC]
     refine T.le (Le.trim [11,10,9,8,7,6,5,0,1] [0] 1 yAa yA) ?_
     simp
     apply aJ
     simp[hC,eS]
     refine TL.cC yAc rfl rfl rfl rfl (bF.of rfl yAd (hn)) (TL.go' ag ?_)
     simp[hC]
     refine TL.cC yAc rfl rfl rfl rfl (bF.of rfl yAd (hno)) (TL.go' ag ?_)
     simp[hC]
     refine TL.cC yAc rfl rfl rfl rfl (bF.of rfl yAd (hZ)) (TL.go' ag ?_)
     simp[hC]
     refine bj ?_
     simp
     apply T.skip
     simp
     refine T.cut (fun s=>s=⟨[(7,I 3),(6,.aw 0 0),(5,I i),(0,.av (bA l) l.length),(1,I deep)],[(0,⟨188,0,[I 3,.str nm,I 0,I 0,.str ⟨#[]⟩,.av [] 0,.str ⟨#[]⟩,.av [] 0,.av (al.flatMap oX) al.length,.av [] 0,.av [] 0]⟩)],1⟩) ?_ ?_
     ·apply au
      simp[hC]
      apply T.block
      refine T.aL (fun m s=>∃ k:Nat,m=al.length-k∧k≤al.length∧s=⟨[(12,I k),(7,I 3),(6,.aw 0 0),(5,I i),(0,.av (bA l) l.length),(1,I deep)],[(0,⟨188,0,[I 3,.str nm,I 0,I 0,.str ⟨#[]⟩,.av [] 0,.str ⟨#[]⟩,.av [] 0,.av (al.flatMap oX) al.length,.av [] 0,.av [] 0]⟩)],1⟩) (n:=al.length) ?_ ?_
      ·refine aa.trim [12,7,6,5,0,1] [0] 1 yAa yA ⟨0,by omega,by omega,?_⟩
       simp
      ·rintro m s ⟨k,rfl,hk,rfl⟩
       by_cases hkl:k<al.length
       ·obtain⟨a,hka⟩:∃ a,al[k]? = some a:=⟨al[k],List.getElem?_eq_getElem hkl⟩
        have hadr:=hafl k a hka
        have hao:=hafl1 k a hka
        have wk:=ct ((k:Int)+1) yA yA
        apply aJ
        simp[hC,hkl]
        refine iv ?_
        simp
        apply fq
        cases a with
        | uJ r=>
         have hok:=uI r hao
         obtain⟨rn,ri⟩:=r
         obtain⟨q1,q2,hq⟩:∃ cs n,mZ ri=.av cs n:=by cases ri<;>exact⟨_,_,rfl⟩
         simp only[kZ,hq] at hok
         simp only[oX,aZ,kZ,hq,List.cons_append,List.nil_append] at hadr
         apply au
         simp[hC,hkl,hadr]
         apply au
         simp[hC]
         refine TL.cC yAc rfl rfl rfl rfl (bF.of rfl yAd (hok)) (TL.go' ag ?_)
         simp[hC]
         refine TL.cC yAc rfl rfl rfl rfl (bF.of rfl yAd (hno)) (TL.go' ag ?_)
         simp[hC]
         refine bj ?_
         simp
         apply T.skip
         simp
         apply aO
         simp[hC,wk]
         refine⟨al.length-(k+1),by omega,?_⟩
         refine aa.trim [12,7,6,5,0,1] [0] 1 yAa yA ⟨k+1,rfl,by omega,?_⟩
         simp
        | exp e=>
         simp only[okA,bL e] at hao
         simp only[oX,bL e,k8,List.cons_append,List.nil_append] at hadr
         apply au
         simp[hC,hkl,hadr]
         apply au
         simp[hC]
         refine TL.cC yAc rfl rfl rfl rfl (bF.of rfl yAd (hZ)) (TL.go' ag ?_)
         simp[hC]
         refine TL.cC yAc rfl rfl rfl rfl (bF.of rfl yAd (hao)) (TL.go' ag ?_)
         simp[hC]
         refine bj ?_
         simp
         apply T.skip
         simp
         apply aO
         simp[hC,wk]
         refine⟨al.length-(k+1),by omega,?_⟩
         refine aa.trim [12,7,6,5,0,1] [0] 1 yAa yA ⟨k+1,rfl,by omega,?_⟩
         simp
       ·apply aJ
        simp[hC,hkl]
        refine bj ?_
        simp
        apply T.exit
        simp
        refine aa.trim [7,6,5,0,1] [0] 1 yAa yA ?_
        simp
     rintro s rfl
     apply au
     simp[hC]
     apply au
     simp[hC]
     refine bj ?_
     simp
     apply T.skip
     simp
     apply aO
     simp[hC,wi]
     refine⟨l.length-(i+1),by omega,?_⟩
     refine aa.trim [5,0,1] [] 0 yAa yA ⟨i+1,rfl,by omega,?_⟩
     simp
    | true=>
     have e5:(if true=true then (4:Int) else 3)=4:=rfl
     rw[e5] at hdr
     apply au
     simp[hC,hil,hdr]
     apply au
     simp[hC]
     apply au
     simp[hC]
     apply au
     simp[hC]
     apply au
     simp[hC]
     refine T.le (Le.trim [11,10,9,8,7,6,5,0,1] [0] 1 yAa yA) ?_
     simp
     apply aJ
     simp[hC,eS]
     refine TL.cC yAc rfl rfl rfl rfl (bF.of rfl yAd (hn)) (TL.go' ag ?_)
     simp[hC]
     refine TL.cC yAc rfl rfl rfl rfl (bF.of rfl yAd (hno)) (TL.go' ag ?_)
     simp[hC]
     refine TL.cC yAc rfl rfl rfl rfl (bF.of rfl yAd (hZ)) (TL.go' ag ?_)
     simp[hC]
     refine bj ?_
     simp
     apply T.skip
     simp
     refine T.cut (fun s=>s=⟨[(7,I 4),(6,.aw 0 0),(5,I i),(0,.av (bA l) l.length),(1,I deep)],[(0,⟨188,0,[I 4,.str nm,I 0,I 0,.str ⟨#[]⟩,.av [] 0,.str ⟨#[]⟩,.av [] 0,.av (al.flatMap oX) al.length,.av [] 0,.av [] 0]⟩)],1⟩) ?_ ?_
     ·apply au
      simp[hC]
      apply T.block
      refine T.aL (fun m s=>∃ k:Nat,m=al.length-k∧k≤al.length∧s=⟨[(12,I k),(7,I 4),(6,.aw 0 0),(5,I i),(0,.av (bA l) l.length),(1,I deep)],[(0,⟨188,0,[I 4,.str nm,I 0,I 0,.str ⟨#[]⟩,.av [] 0,.str ⟨#[]⟩,.av [] 0,.av (al.flatMap oX) al.length,.av [] 0,.av [] 0]⟩)],1⟩) (n:=al.length) ?_ ?_
      ·refine aa.trim [12,7,6,5,0,1] [0] 1 yAa yA ⟨0,by omega,by omega,?_⟩
       simp
      ·rintro m s ⟨k,rfl,hk,rfl⟩
       by_cases hkl:k<al.length
       ·obtain⟨a,hka⟩:∃ a,al[k]? = some a:=⟨al[k],List.getElem?_eq_getElem hkl⟩
        have hadr:=hafl k a hka
        have hao:=hafl1 k a hka
        have wk:=ct ((k:Int)+1) yA yA
        apply aJ
        simp[hC,hkl]
        refine iv ?_
        simp
        apply fq
        cases a with
        | uJ r=>
         have hok:=uI r hao
         obtain⟨rn,ri⟩:=r
         obtain⟨q1,q2,hq⟩:∃ cs n,mZ ri=.av cs n:=by cases ri<;>exact⟨_,_,rfl⟩
         simp only[kZ,hq] at hok
         simp only[oX,aZ,kZ,hq,List.cons_append,List.nil_append] at hadr
         apply au
         simp[hC,hkl,hadr]
         apply au
         simp[hC]
         refine TL.cC yAc rfl rfl rfl rfl (bF.of rfl yAd (hok)) (TL.go' ag ?_)
         simp[hC]
         refine TL.cC yAc rfl rfl rfl rfl (bF.of rfl yAd (hno)) (TL.go' ag ?_)
         simp[hC]
         refine bj ?_
         simp
         apply T.skip
         simp
         apply aO
         simp[hC,wk]
         refine⟨al.length-(k+1),by omega,?_⟩
         refine aa.trim [12,7,6,5,0,1] [0] 1 yAa yA ⟨k+1,rfl,by omega,?_⟩
         simp
        | exp e=>
         simp only[okA,bL e] at hao
         simp only[oX,bL e,k8,List.cons_append,List.nil_append] at hadr
         apply au
         simp[hC,hkl,hadr]
         apply au
         simp[hC]
         refine TL.cC yAc rfl rfl rfl rfl (bF.of rfl yAd (hZ)) (TL.go' ag ?_)
         simp[hC]
         refine TL.cC yAc rfl rfl rfl rfl (bF.of rfl yAd (hao)) (TL.go' ag ?_)
         simp[hC]
         refine bj ?_
         simp
         apply T.skip
         simp
         apply aO
         simp[hC,wk]
         refine⟨al.length-(k+1),by omega,?_⟩
         refine aa.trim [12,7,6,5,0,1] [0] 1 yAa yA ⟨k+1,rfl,by omega,?_⟩
         simp
       ·apply aJ
        simp[hC,hkl]
        refine bj ?_
        simp
        apply T.exit
        simp
        refine aa.trim [7,6,5,0,1] [0] 1 yAa yA ?_
        simp
     rintro s rfl
     apply au
     simp[hC]
     apply au
     simp[hC]
     refine bj ?_
     simp
     apply T.skip
     simp
     apply aO
     simp[hC,wi]
     refine⟨l.length-(i+1),by omega,?_⟩
     refine aa.trim [5,0,1] [] 0 yAa yA ⟨i+1,rfl,by omega,?_⟩
     simp
  ·apply aJ
   simp[hC,hil]
   refine bj ?_
   simp
   apply T.exit
   simp
   apply au
   simp[hC]
   apply T.ret
   apply aa.here
   simp[Tryz.results90]
end Go.Proofs.YtmnglemlimfpbaaGreat
