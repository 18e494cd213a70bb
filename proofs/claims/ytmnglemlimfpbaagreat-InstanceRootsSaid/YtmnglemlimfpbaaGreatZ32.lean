/- noExpr, noRef, okRef, okStmts. -/
import Derived.Test.YtmnglemlimfpbaaGreatZ30
namespace Go.Proofs.YtmnglemlimfpbaaGreat
open Go.Can Go.bg
theorem pW:ah Tryz.prog 125 [.agg (bB .zero)] (.bool true):=by
 refine ah.bl aa Tryz.func125 rfl (by kernel_rfl) (by simp[Tryz.ntmps125]) rfl fun C hC hC0=>?_
 rw[Tryz.ntmps125] at hC
 refine T.seq (T.go' aa ?_)
 simp[hC,bB,eS]
 refine T.seq (T.go' aa ?_)
 simp[hC,gT]
 refine T.ret ?_
 refine ae.here ?_
 simp[Tryz.results125]
theorem gw:ah Tryz.prog 127 [.agg j5] (.bool true):=by
 refine ah.bl aa Tryz.func127 rfl (by kernel_rfl) (by simp[Tryz.ntmps127]) rfl fun C hC hC0=>?_
 rw[Tryz.ntmps127] at hC
 refine T.seq (T.go' aa ?_)
 simp[hC,j5,eS]
 refine T.seq (T.go' aa ?_)
 simp[hC,gT]
 refine T.ret ?_
 refine ae.here ?_
 simp[Tryz.results127]
def RfR (r:Rf):Prop:=lD r.name∧∀ e,r.index=some e→ah Tryz.prog 124 [.agg (bB e)] (.bool true)
theorem sq (r:Rf)(h:RfR r):ah Tryz.prog 126 [.agg (j3 r)] (.bool true):=by
 obtain⟨nm,ix⟩:=r
 obtain⟨h1,h2⟩:=h
 have hn:=iZ nm h1.1 h1.2
 refine ah.bl aa Tryz.func126 rfl (by kernel_rfl) (by simp[Tryz.ntmps126]) rfl fun C hC hC0=>?_
 rw[Tryz.ntmps126] at hC
 cases ix with
 | none=>
  refine T.seq (T.go' aa ?_)
  simp[hC,j3,nu]
  refine T.seq (T.go' aa ?_)
  simp[hC]
  refine TL.call (by simp[hC]) rfl rfl (aI.of rfl (by first | rfl | simp only[List.cons_append,List.nil_append,List.append_nil,trees,tree,ag,ak,Bool.and_self,Bool.and_true,Bool.true_and]) (hn)) (TL.go' aa ?_)
  simp[hC]
  refine T.ret ?_
  refine ae.here ?_
  simp[Tryz.results126]
 | some e=>
  have hv:=h2 e rfl
  refine T.seq (T.go' aa ?_)
  simp[hC,j3,nu]
  refine T.seq (T.go' aa ?_)
  simp[hC]
  refine TL.call (by simp[hC]) rfl rfl (aI.of rfl (by first | rfl | simp only[List.cons_append,List.nil_append,List.append_nil,trees,tree,ag,ak,Bool.and_self,Bool.and_true,Bool.true_and]) (hn)) (TL.go' aa ?_)
  simp[hC]
  refine TL.bT (by simp[hC]) rfl rfl rfl rfl (aI.of rfl (by first | rfl | simp only[List.append_nil,trees,tree,ag,Bool.and_self]) (hv)) (TL.go' aa ?_)
  simp[hC]
  refine T.ret ?_
  refine ae.here ?_
  simp[Tryz.results126]
def okA (a:Ar):Prop:=match a with
 | .sr r=>RfR r
 | .exp e=>ah Tryz.prog 124 [.agg (bB e)] (.bool true)
def J90 (l:List Sm)(deep:Nat)(n:Nat)(s:St):Prop:=∃ i:Nat,n=l.length-i∧i≤l.length∧s=⟨[(5,I i),(0,.ax (bt l) l.length),(1,I deep)],[],0⟩
set_option maxHeartbeats 8000000 in
theorem vQ (l:List Sm)(deep:Nat)(hd:deep<20)(hl:l.length≤100000)
  (h:∀ s∈l,(match s with
   | .gr nm e=>lD nm∧ah Tryz.prog 124 [.agg (bB e)] (.bool true)
   | .gV nm e=>lD nm∧ah Tryz.prog 124 [.agg (bB e)] (.bool true)
   | .dI _ nm al=>lD nm∧al.length≤1000∧∀ a∈al,okA a
   | .dg _ r=>RfR r
   | .ku e th el=>ah Tryz.prog 124 [.agg (bB e)] (.bool true)∧ah Tryz.prog 90 [.ax (bt th) th.length,I ((deep+1:Nat))] (.bool true)∧ah Tryz.prog 90 [.ax (bt el) el.length,I ((deep+1:Nat))] (.bool true)
   | .cj e th=>ah Tryz.prog 124 [.agg (bB e)] (.bool true)∧ah Tryz.prog 90 [.ax (bt th) th.length,I ((deep+1:Nat))] (.bool true)
   | .iU=>True)):ah Tryz.prog 90 [.ax (bt l) l.length,I deep] (.bool true):=by
 have hflat:=fun (i:Nat) (x:Sm) (h:l[i]? = some x)=>aV (f:=gI) (n:=11) jK (m:=l) h
 rw[← mO] at hflat
 have hd24:¬ (24:Int)≤deep:=by omega
 have wd:=db ((deep:Int)+1) (by omega) (by omega)
 refine ah.bl aa Tryz.func90 rfl (by kernel_rfl) (by simp[Tryz.ntmps90]) rfl fun C hC hC0=>?_
 rw[Tryz.ntmps90] at hC
 refine T.seq (T.go' aa ?_)
 simp[hC]
 refine T.seq (T.seq (T.go' aa ?_))
 simp[hC,hd24]
 refine T.cond (b:=false) rfl ?_
 simp
 refine T.skip ?_
 simp
 refine T.seq (T.seq (T.go' aa ?_))
 simp[hC]
 refine T.block ?_
 refine T.aS (J90 l deep) (n:=l.length) ?_ ?_
 ·refine ae.le (Le.env [5,0,1]) (ae.here ⟨0,by omega,by omega,?_⟩)
  simp
 ·rintro n s ⟨i,rfl,hi,rfl⟩
  by_cases hil:i<l.length
  ·obtain⟨x,hx⟩:∃ x,l[i]? = some x:=⟨l[i],List.getElem?_eq_getElem hil⟩
   have hdr:=hflat i x hx
   have hh:=h x (List.mem_of_getElem? hx)
   have wi:=db ((i:Int)+1) (by omega) (by omega)
   refine T.seq (T.seq (T.go' aa ?_))
   simp[hC,hil]
   refine T.cond (b:=true) rfl (T.skip ?_)
   simp
   refine T.seq (T.block ?_)
   cases x with
   | gr nm e=>
    obtain⟨h1,h2⟩:=hh
    have hn:=iZ nm h1.1 h1.2
    simp only[gI,bP e,j5,List.cons_append,List.nil_append] at hdr
    rw[bP e] at h2
    refine T.seq (T.go' aa ?_)
    simp[hC,hil,hdr]
    refine T.seq (T.go' aa ?_)
    simp[hC]
    refine T.seq (T.go' aa ?_)
    simp[hC]
    refine T.seq (T.go' aa ?_)
    simp[hC]
    refine T.seq (T.go' aa ?_)
    simp[hC]
    refine T.le (Le.trim [11,10,9,8,7,6,5,0,1] [0] 1 (by simp) (by omega)) ?_
    simp
    refine T.seq (T.seq (T.go' aa ?_))
    simp[hC]
    refine TL.bT (by simp[hC]) rfl rfl rfl rfl (aI.of rfl (by first | rfl | simp only[List.cons_append,List.nil_append,List.append_nil,trees,tree,ag,ak,Bool.and_self,Bool.and_true,Bool.true_and]) (hn)) (TL.go' aa ?_)
    simp[hC]
    refine TL.bT (by simp[hC]) rfl rfl rfl rfl (aI.of rfl (by first | rfl | simp only[List.cons_append,List.nil_append,List.append_nil,trees,tree,ag,ak,Bool.and_self,Bool.and_true,Bool.true_and]) (h2)) (TL.go' aa ?_)
    simp[hC]
    refine TL.bT (by simp[hC]) rfl rfl rfl rfl (aI.of rfl (by first | rfl | simp only[List.cons_append,List.nil_append,List.append_nil,trees,tree,ag,ak,Bool.and_self,Bool.and_true,Bool.true_and]) (gw)) (TL.go' aa ?_)
    simp[hC]
    refine T.cond (b:=false) rfl ?_
    simp
    refine T.skip ?_
    simp
    refine T.cut (fun s=>s=⟨[(7,I 1),(6,.aq 0 0),(5,I i),(0,.ax (bt l) l.length),(1,I deep)],[(0,⟨188,0,[I 1,.str nm,I e.op,I e.n,.str e.name,.ax (e.args.flatMap bB) e.args.length,.str eS,.ax [] 0,.ax [] 0,.ax [] 0,.ax [] 0]⟩)],1⟩) ?_ ?_
    ·refine T.seq (T.go' aa ?_)
     simp[hC]
     refine T.block ?_
     refine T.aS (fun m s=>s=⟨[(12,.int .i64 0),(7,I 1),(6,.aq 0 0),(5,I i),(0,.ax (bt l) l.length),(1,I deep)],[(0,⟨188,0,[I 1,.str nm,I e.op,I e.n,.str e.name,.ax (e.args.flatMap bB) e.args.length,.str eS,.ax [] 0,.ax [] 0,.ax [] 0,.ax [] 0]⟩)],1⟩) (n:=0) ?_ ?_
     ·refine ae.trim [12,7,6,5,0,1] [0] 1 (by simp) (by omega) ?_
      simp
     ·rintro m s rfl
      refine T.seq (T.seq (T.go' aa ?_))
      simp[hC]
      refine T.cond (b:=false) rfl ?_
      simp
      refine T.exit ?_
      simp
      refine ae.trim [7,6,5,0,1] [0] 1 (by simp) (by omega) ?_
      simp
    rintro s rfl
    refine T.seq (T.go' aa ?_)
    simp[hC]
    refine T.seq (T.go' aa ?_)
    simp[hC]
    refine T.cond (b:=false) rfl ?_
    simp
    refine T.skip ?_
    simp
    refine T.go' aa ?_
    simp[hC,wi]
    refine⟨l.length-(i+1),by omega,?_⟩
    refine ae.trim [5,0,1] [] 0 (by simp) (by omega) ⟨i+1,rfl,by omega,?_⟩
    simp
   | gV nm e=>
    obtain⟨h1,h2⟩:=hh
    have hn:=iZ nm h1.1 h1.2
    simp only[gI,bP e,j5,List.cons_append,List.nil_append] at hdr
    rw[bP e] at h2
    refine T.seq (T.go' aa ?_)
    simp[hC,hil,hdr]
    refine T.seq (T.go' aa ?_)
    simp[hC]
    refine T.seq (T.go' aa ?_)
    simp[hC]
    refine T.seq (T.go' aa ?_)
    simp[hC]
    refine T.seq (T.go' aa ?_)
    simp[hC]
    refine T.le (Le.trim [11,10,9,8,7,6,5,0,1] [0] 1 (by simp) (by omega)) ?_
    simp
    refine T.seq (T.seq (T.go' aa ?_))
    simp[hC]
    refine TL.bT (by simp[hC]) rfl rfl rfl rfl (aI.of rfl (by first | rfl | simp only[List.cons_append,List.nil_append,List.append_nil,trees,tree,ag,ak,Bool.and_self,Bool.and_true,Bool.true_and]) (hn)) (TL.go' aa ?_)
    simp[hC]
    refine TL.bT (by simp[hC]) rfl rfl rfl rfl (aI.of rfl (by first | rfl | simp only[List.cons_append,List.nil_append,List.append_nil,trees,tree,ag,ak,Bool.and_self,Bool.and_true,Bool.true_and]) (h2)) (TL.go' aa ?_)
    simp[hC]
    refine TL.bT (by simp[hC]) rfl rfl rfl rfl (aI.of rfl (by first | rfl | simp only[List.cons_append,List.nil_append,List.append_nil,trees,tree,ag,ak,Bool.and_self,Bool.and_true,Bool.true_and]) (gw)) (TL.go' aa ?_)
    simp[hC]
    refine T.cond (b:=false) rfl ?_
    simp
    refine T.skip ?_
    simp
    refine T.cut (fun s=>s=⟨[(7,I 2),(6,.aq 0 0),(5,I i),(0,.ax (bt l) l.length),(1,I deep)],[(0,⟨188,0,[I 2,.str nm,I e.op,I e.n,.str e.name,.ax (e.args.flatMap bB) e.args.length,.str eS,.ax [] 0,.ax [] 0,.ax [] 0,.ax [] 0]⟩)],1⟩) ?_ ?_
    ·refine T.seq (T.go' aa ?_)
     simp[hC]
     refine T.block ?_
     refine T.aS (fun m s=>s=⟨[(12,.int .i64 0),(7,I 2),(6,.aq 0 0),(5,I i),(0,.ax (bt l) l.length),(1,I deep)],[(0,⟨188,0,[I 2,.str nm,I e.op,I e.n,.str e.name,.ax (e.args.flatMap bB) e.args.length,.str eS,.ax [] 0,.ax [] 0,.ax [] 0,.ax [] 0]⟩)],1⟩) (n:=0) ?_ ?_
     ·refine ae.trim [12,7,6,5,0,1] [0] 1 (by simp) (by omega) ?_
      simp
     ·rintro m s rfl
      refine T.seq (T.seq (T.go' aa ?_))
      simp[hC]
      refine T.cond (b:=false) rfl ?_
      simp
      refine T.exit ?_
      simp
      refine ae.trim [7,6,5,0,1] [0] 1 (by simp) (by omega) ?_
      simp
    rintro s rfl
    refine T.seq (T.go' aa ?_)
    simp[hC]
    refine T.seq (T.go' aa ?_)
    simp[hC]
    refine T.cond (b:=false) rfl ?_
    simp
    refine T.skip ?_
    simp
    refine T.go' aa ?_
    simp[hC,wi]
    refine⟨l.length-(i+1),by omega,?_⟩
    refine ae.trim [5,0,1] [] 0 (by simp) (by omega) ⟨i+1,rfl,by omega,?_⟩
    simp
   | iU=>
    have hno:=pW
    simp only[gI,bB,j5,List.cons_append,List.nil_append] at hdr hno
    refine T.seq (T.go' aa ?_)
    simp[hC,hil,hdr]
    refine T.seq (T.go' aa ?_)
    simp[hC]
    refine T.seq (T.go' aa ?_)
    simp[hC]
    refine T.seq (T.go' aa ?_)
    simp[hC]
    refine T.seq (T.go' aa ?_)
    simp[hC]
    refine T.le (Le.trim [11,10,9,8,7,6,5,0,1] [0] 1 (by simp) (by omega)) ?_
    simp
    refine T.seq (T.seq (T.go' aa ?_))
    simp[hC,ji,eS]
    refine TL.bT (by simp[hC]) rfl rfl rfl rfl (aI.of rfl (by first | rfl | simp only[List.cons_append,List.nil_append,List.append_nil,trees,tree,ag,ak,Bool.and_self,Bool.and_true,Bool.true_and]) (hno)) (TL.go' aa ?_)
    simp[hC]
    refine TL.bT (by simp[hC]) rfl rfl rfl rfl (aI.of rfl (by first | rfl | simp only[List.cons_append,List.nil_append,List.append_nil,trees,tree,ag,ak,Bool.and_self,Bool.and_true,Bool.true_and]) (gw)) (TL.go' aa ?_)
    simp[hC]
    refine T.cond (b:=false) rfl ?_
    simp
    refine T.skip ?_
    simp
    refine T.cut (fun s=>s=⟨[(7,I 9),(6,.aq 0 0),(5,I i),(0,.ax (bt l) l.length),(1,I deep)],[(0,⟨188,0,[I 9,.str ⟨#[]⟩,I 0,I 0,.str ⟨#[]⟩,.ax [] 0,.str ⟨#[]⟩,.ax [] 0,.ax [] 0,.ax [] 0,.ax [] 0]⟩)],1⟩) ?_ ?_
    ·refine T.seq (T.go' aa ?_)
     simp[hC]
     refine T.block ?_
     refine T.aS (fun m s=>s=⟨[(12,.int .i64 0),(7,I 9),(6,.aq 0 0),(5,I i),(0,.ax (bt l) l.length),(1,I deep)],[(0,⟨188,0,[I 9,.str ⟨#[]⟩,I 0,I 0,.str ⟨#[]⟩,.ax [] 0,.str ⟨#[]⟩,.ax [] 0,.ax [] 0,.ax [] 0,.ax [] 0]⟩)],1⟩) (n:=0) ?_ ?_
     ·refine ae.trim [12,7,6,5,0,1] [0] 1 (by simp) (by omega) ?_
      simp
     ·rintro m s rfl
      refine T.seq (T.seq (T.go' aa ?_))
      simp[hC]
      refine T.cond (b:=false) rfl ?_
      simp
      refine T.exit ?_
      simp
      refine ae.trim [7,6,5,0,1] [0] 1 (by simp) (by omega) ?_
      simp
    rintro s rfl
    refine T.seq (T.go' aa ?_)
    simp[hC]
    refine T.seq (T.go' aa ?_)
    simp[hC]
    refine T.cond (b:=false) rfl ?_
    simp
    refine T.skip ?_
    simp
    refine T.go' aa ?_
    simp[hC,wi]
    refine⟨l.length-(i+1),by omega,?_⟩
    refine ae.trim [5,0,1] [] 0 (by simp) (by omega) ⟨i+1,rfl,by omega,?_⟩
    simp
   | dg u r=>
    have hno:=pW
    have hok:=sq r hh
    obtain⟨rn,ri⟩:=r
    obtain⟨q1,q2,hq⟩:∃ cs n,nu ri=.ax cs n:=by cases ri<;>exact⟨_,_,rfl⟩
    simp only[j3,hq] at hok
    simp only[gI,bB,j3,hq,List.cons_append,List.nil_append] at hdr hno
    cases u with
    | false=>
     have e5:(if false=true then (6:Int) else 5)=5:=rfl
     rw[e5] at hdr
     refine T.seq (T.go' aa ?_)
     simp[hC,hil,hdr]
     refine T.seq (T.go' aa ?_)
     simp[hC]
     refine T.seq (T.go' aa ?_)
     simp[hC]
     refine T.seq (T.go' aa ?_)
     simp[hC]
     refine T.seq (T.go' aa ?_)
     simp[hC]
     refine T.le (Le.trim [11,10,9,8,7,6,5,0,1] [0] 1 (by simp) (by omega)) ?_
     simp
     refine T.seq (T.seq (T.go' aa ?_))
     simp[hC,ji,eS]
     refine TL.bT (by simp[hC]) rfl rfl rfl rfl (aI.of rfl (by first | rfl | simp only[List.cons_append,List.nil_append,List.append_nil,trees,tree,ag,ak,Bool.and_self,Bool.and_true,Bool.true_and]) (hno)) (TL.go' aa ?_)
     simp[hC]
     refine TL.bT (by simp[hC]) rfl rfl rfl rfl (aI.of rfl (by first | rfl | simp only[List.cons_append,List.nil_append,List.append_nil,trees,tree,ag,ak,Bool.and_self,Bool.and_true,Bool.true_and]) (hok)) (TL.go' aa ?_)
     simp[hC]
     refine T.cond (b:=false) rfl ?_
     simp
     refine T.skip ?_
     simp
     refine T.cut (fun s=>s=⟨[(7,I 5),(6,.aq 0 0),(5,I i),(0,.ax (bt l) l.length),(1,I deep)],[(0,⟨188,0,[I 5,.str ⟨#[]⟩,I 0,I 0,.str ⟨#[]⟩,.ax [] 0,.str rn,.ax q1 q2,.ax [] 0,.ax [] 0,.ax [] 0]⟩)],1⟩) ?_ ?_
     ·refine T.seq (T.go' aa ?_)
      simp[hC]
      refine T.block ?_
      refine T.aS (fun m s=>s=⟨[(12,.int .i64 0),(7,I 5),(6,.aq 0 0),(5,I i),(0,.ax (bt l) l.length),(1,I deep)],[(0,⟨188,0,[I 5,.str ⟨#[]⟩,I 0,I 0,.str ⟨#[]⟩,.ax [] 0,.str rn,.ax q1 q2,.ax [] 0,.ax [] 0,.ax [] 0]⟩)],1⟩) (n:=0) ?_ ?_
      ·refine ae.trim [12,7,6,5,0,1] [0] 1 (by simp) (by omega) ?_
       simp
      ·rintro m s rfl
       refine T.seq (T.seq (T.go' aa ?_))
       simp[hC]
       refine T.cond (b:=false) rfl ?_
       simp
       refine T.exit ?_
       simp
       refine ae.trim [7,6,5,0,1] [0] 1 (by simp) (by omega) ?_
       simp
     rintro s rfl
     refine T.seq (T.go' aa ?_)
     simp[hC]
     refine T.seq (T.go' aa ?_)
     simp[hC]
     refine T.cond (b:=false) rfl ?_
     simp
     refine T.skip ?_
     simp
     refine T.go' aa ?_
     simp[hC,wi]
     refine⟨l.length-(i+1),by omega,?_⟩
     refine ae.trim [5,0,1] [] 0 (by simp) (by omega) ⟨i+1,rfl,by omega,?_⟩
     simp
    | true=>
     have e5:(if true=true then (6:Int) else 5)=6:=rfl
     rw[e5] at hdr
     refine T.seq (T.go' aa ?_)
     simp[hC,hil,hdr]
     refine T.seq (T.go' aa ?_)
     simp[hC]
     refine T.seq (T.go' aa ?_)
     simp[hC]
     refine T.seq (T.go' aa ?_)
     simp[hC]
     refine T.seq (T.go' aa ?_)
     simp[hC]
     refine T.le (Le.trim [11,10,9,8,7,6,5,0,1] [0] 1 (by simp) (by omega)) ?_
     simp
     refine T.seq (T.seq (T.go' aa ?_))
     simp[hC,ji,eS]
     refine TL.bT (by simp[hC]) rfl rfl rfl rfl (aI.of rfl (by first | rfl | simp only[List.cons_append,List.nil_append,List.append_nil,trees,tree,ag,ak,Bool.and_self,Bool.and_true,Bool.true_and]) (hno)) (TL.go' aa ?_)
     simp[hC]
     refine TL.bT (by simp[hC]) rfl rfl rfl rfl (aI.of rfl (by first | rfl | simp only[List.cons_append,List.nil_append,List.append_nil,trees,tree,ag,ak,Bool.and_self,Bool.and_true,Bool.true_and]) (hok)) (TL.go' aa ?_)
     simp[hC]
     refine T.cond (b:=false) rfl ?_
     simp
     refine T.skip ?_
     simp
     refine T.cut (fun s=>s=⟨[(7,I 6),(6,.aq 0 0),(5,I i),(0,.ax (bt l) l.length),(1,I deep)],[(0,⟨188,0,[I 6,.str ⟨#[]⟩,I 0,I 0,.str ⟨#[]⟩,.ax [] 0,.str rn,.ax q1 q2,.ax [] 0,.ax [] 0,.ax [] 0]⟩)],1⟩) ?_ ?_
     ·refine T.seq (T.go' aa ?_)
      simp[hC]
      refine T.block ?_
      refine T.aS (fun m s=>s=⟨[(12,.int .i64 0),(7,I 6),(6,.aq 0 0),(5,I i),(0,.ax (bt l) l.length),(1,I deep)],[(0,⟨188,0,[I 6,.str ⟨#[]⟩,I 0,I 0,.str ⟨#[]⟩,.ax [] 0,.str rn,.ax q1 q2,.ax [] 0,.ax [] 0,.ax [] 0]⟩)],1⟩) (n:=0) ?_ ?_
      ·refine ae.trim [12,7,6,5,0,1] [0] 1 (by simp) (by omega) ?_
       simp
      ·rintro m s rfl
       refine T.seq (T.seq (T.go' aa ?_))
       simp[hC]
       refine T.cond (b:=false) rfl ?_
       simp
       refine T.exit ?_
       simp
       refine ae.trim [7,6,5,0,1] [0] 1 (by simp) (by omega) ?_
       simp
     rintro s rfl
     refine T.seq (T.go' aa ?_)
     simp[hC]
     refine T.seq (T.go' aa ?_)
     simp[hC]
     refine T.cond (b:=false) rfl ?_
     simp
     refine T.skip ?_
     simp
     refine T.go' aa ?_
     simp[hC,wi]
     refine⟨l.length-(i+1),by omega,?_⟩
     refine ae.trim [5,0,1] [] 0 (by simp) (by omega) ⟨i+1,rfl,by omega,?_⟩
     simp
   | ku e th el=>
    obtain⟨h2,h3,h4⟩:=hh
    simp only[gI,bP e,j5,List.cons_append,List.nil_append] at hdr
    rw[bP e] at h2
    have c1:(((deep+1:Nat)):Int)=deep+1:=by omega
    rw[c1] at h3 h4
    refine T.seq (T.go' aa ?_)
    simp[hC,hil,hdr]
    refine T.seq (T.go' aa ?_)
    simp[hC]
    refine T.seq (T.go' aa ?_)
    simp[hC]
    refine T.seq (T.go' aa ?_)
    simp[hC]
    refine T.seq (T.go' aa ?_)
    simp[hC]
    refine T.le (Le.trim [11,10,9,8,7,6,5,0,1] [0] 1 (by simp) (by omega)) ?_
    simp
    refine T.seq (T.seq (T.go' aa ?_))
    simp[hC,ji,eS]
    refine TL.bT (by simp[hC]) rfl rfl rfl rfl (aI.of rfl (by first | rfl | simp only[List.cons_append,List.nil_append,List.append_nil,trees,tree,ag,ak,Bool.and_self,Bool.and_true,Bool.true_and]) (h2)) (TL.go' aa ?_)
    simp[hC]
    refine TL.bT (by simp[hC]) rfl rfl rfl rfl (aI.of rfl (by first | rfl | simp only[List.cons_append,List.nil_append,List.append_nil,trees,tree,ag,ak,Bool.and_self,Bool.and_true,Bool.true_and]) (gw)) (TL.go' aa ?_)
    simp[hC]
    refine T.cond (b:=false) rfl ?_
    simp
    refine T.skip ?_
    simp
    refine T.cut (fun s=>s=⟨[(7,I 7),(6,.aq 0 0),(5,I i),(0,.ax (bt l) l.length),(1,I deep)],[(0,⟨188,0,[I 7,.str ⟨#[]⟩,I e.op,I e.n,.str e.name,.ax (e.args.flatMap bB) e.args.length,.str ⟨#[]⟩,.ax [] 0,.ax [] 0,.ax (bt th) th.length,.ax (bt el) el.length]⟩)],1⟩) ?_ ?_
    ·refine T.seq (T.go' aa ?_)
     simp[hC]
     refine T.block ?_
     refine T.aS (fun m s=>s=⟨[(12,.int .i64 0),(7,I 7),(6,.aq 0 0),(5,I i),(0,.ax (bt l) l.length),(1,I deep)],[(0,⟨188,0,[I 7,.str ⟨#[]⟩,I e.op,I e.n,.str e.name,.ax (e.args.flatMap bB) e.args.length,.str ⟨#[]⟩,.ax [] 0,.ax [] 0,.ax (bt th) th.length,.ax (bt el) el.length]⟩)],1⟩) (n:=0) ?_ ?_
     ·refine ae.trim [12,7,6,5,0,1] [0] 1 (by simp) (by omega) ?_
      simp
     ·rintro m s rfl
      refine T.seq (T.seq (T.go' aa ?_))
      simp[hC]
      refine T.cond (b:=false) rfl ?_
      simp
      refine T.exit ?_
      simp
      refine ae.trim [7,6,5,0,1] [0] 1 (by simp) (by omega) ?_
      simp
    rintro s rfl
    refine T.seq (T.go' aa ?_)
    simp[hC]
    by_cases hel:0<el.length
    ·refine T.seq (T.go' aa ?_)
     simp[hC,wd]
     refine TL.bT (by simp[hC]) rfl rfl rfl rfl (aI.of rfl (by first | rfl | simp only[List.cons_append,List.nil_append,List.append_nil,trees,tree,ag,ak,Bool.and_self,Bool.and_true,Bool.true_and]) (h3)) (TL.go' aa ?_)
     simp[hC,hel,wd]
     refine TL.bT (by simp[hC]) rfl rfl rfl rfl (aI.of rfl (by first | rfl | simp only[List.cons_append,List.nil_append,List.append_nil,trees,tree,ag,ak,Bool.and_self,Bool.and_true,Bool.true_and]) (h4)) (TL.go' aa ?_)
     simp[hC]
     refine T.cond (b:=false) rfl ?_
     simp
     refine T.skip ?_
     simp
     refine T.go' aa ?_
     simp[hC,wi]
     refine⟨l.length-(i+1),by omega,?_⟩
     refine ae.trim [5,0,1] [] 0 (by simp) (by omega) ⟨i+1,rfl,by omega,?_⟩
     simp
    ·refine T.seq (T.go' aa ?_)
     simp[hC,wd]
     refine TL.bT (by simp[hC]) rfl rfl rfl rfl (aI.of rfl (by first | rfl | simp only[List.cons_append,List.nil_append,List.append_nil,trees,tree,ag,ak,Bool.and_self,Bool.and_true,Bool.true_and]) (h3)) (TL.go' aa ?_)
     simp[hC,hel]
     refine T.cond (b:=false) rfl ?_
     simp
     refine T.skip ?_
     simp
     refine T.go' aa ?_
     simp[hC,wi]
     refine⟨l.length-(i+1),by omega,?_⟩
     refine ae.trim [5,0,1] [] 0 (by simp) (by omega) ⟨i+1,rfl,by omega,?_⟩
     simp
   | cj e th=>
    obtain⟨h2,h3⟩:=hh
    simp only[gI,bP e,j5,List.cons_append,List.nil_append] at hdr
    rw[bP e] at h2
    have c1:(((deep+1:Nat)):Int)=deep+1:=by omega
    rw[c1] at h3
    refine T.seq (T.go' aa ?_)
    simp[hC,hil,hdr]
    refine T.seq (T.go' aa ?_)
    simp[hC]
    refine T.seq (T.go' aa ?_)
    simp[hC]
    refine T.seq (T.go' aa ?_)
    simp[hC]
    refine T.seq (T.go' aa ?_)
    simp[hC]
    refine T.le (Le.trim [11,10,9,8,7,6,5,0,1] [0] 1 (by simp) (by omega)) ?_
    simp
    refine T.seq (T.seq (T.go' aa ?_))
    simp[hC,ji,eS]
    refine TL.bT (by simp[hC]) rfl rfl rfl rfl (aI.of rfl (by first | rfl | simp only[List.cons_append,List.nil_append,List.append_nil,trees,tree,ag,ak,Bool.and_self,Bool.and_true,Bool.true_and]) (h2)) (TL.go' aa ?_)
    simp[hC]
    refine TL.bT (by simp[hC]) rfl rfl rfl rfl (aI.of rfl (by first | rfl | simp only[List.cons_append,List.nil_append,List.append_nil,trees,tree,ag,ak,Bool.and_self,Bool.and_true,Bool.true_and]) (gw)) (TL.go' aa ?_)
    simp[hC]
    refine T.cond (b:=false) rfl ?_
    simp
    refine T.skip ?_
    simp
    refine T.cut (fun s=>s=⟨[(7,I 8),(6,.aq 0 0),(5,I i),(0,.ax (bt l) l.length),(1,I deep)],[(0,⟨188,0,[I 8,.str ⟨#[]⟩,I e.op,I e.n,.str e.name,.ax (e.args.flatMap bB) e.args.length,.str ⟨#[]⟩,.ax [] 0,.ax [] 0,.ax (bt th) th.length,.ax [] 0]⟩)],1⟩) ?_ ?_
    ·refine T.seq (T.go' aa ?_)
     simp[hC]
     refine T.block ?_
     refine T.aS (fun m s=>s=⟨[(12,.int .i64 0),(7,I 8),(6,.aq 0 0),(5,I i),(0,.ax (bt l) l.length),(1,I deep)],[(0,⟨188,0,[I 8,.str ⟨#[]⟩,I e.op,I e.n,.str e.name,.ax (e.args.flatMap bB) e.args.length,.str ⟨#[]⟩,.ax [] 0,.ax [] 0,.ax (bt th) th.length,.ax [] 0]⟩)],1⟩) (n:=0) ?_ ?_
     ·refine ae.trim [12,7,6,5,0,1] [0] 1 (by simp) (by omega) ?_
      simp
     ·rintro m s rfl
      refine T.seq (T.seq (T.go' aa ?_))
      simp[hC]
      refine T.cond (b:=false) rfl ?_
      simp
      refine T.exit ?_
      simp
      refine ae.trim [7,6,5,0,1] [0] 1 (by simp) (by omega) ?_
      simp
    rintro s rfl
    refine T.seq (T.go' aa ?_)
    simp[hC]
    refine T.seq (T.go' aa ?_)
    simp[hC,wd]
    refine TL.bT (by simp[hC]) rfl rfl rfl rfl (aI.of rfl (by first | rfl | simp only[List.cons_append,List.nil_append,List.append_nil,trees,tree,ag,ak,Bool.and_self,Bool.and_true,Bool.true_and]) (h3)) (TL.go' aa ?_)
    simp[hC]
    refine T.cond (b:=false) rfl ?_
    simp
    refine T.skip ?_
    simp
    refine T.go' aa ?_
    simp[hC,wi]
    refine⟨l.length-(i+1),by omega,?_⟩
    refine ae.trim [5,0,1] [] 0 (by simp) (by omega) ⟨i+1,rfl,by omega,?_⟩
    simp
   | dI g nm al=>
    obtain⟨h1,h2,h3⟩:=hh
    have hn:=iZ nm h1.1 h1.2
    have hno:=pW
    simp only[gI,bB,j5,List.cons_append,List.nil_append] at hdr hno
    have hafl:=fun (k:Nat) (a:Ar) (h:al[k]? = some a)=>aV (f:=ni) (n:=7) rA (m:=al) h
    have hafl1:=fun (k:Nat) (a:Ar) (h:al[k]? = some a)=>h3 a (List.mem_of_getElem? h)
    clear h3
    cases g with
    | false=>
     have e5:(if false=true then (4:Int) else 3)=3:=rfl
     rw[e5] at hdr
     refine T.seq (T.go' aa ?_)
     simp[hC,hil,hdr]
     refine T.seq (T.go' aa ?_)
     simp[hC]
     refine T.seq (T.go' aa ?_)
     simp[hC]
     refine T.seq (T.go' aa ?_)
     simp[hC]
     refine T.seq (T.go' aa ?_)
     simp[hC]
     refine T.le (Le.trim [11,10,9,8,7,6,5,0,1] [0] 1 (by simp) (by omega)) ?_
     simp
     refine T.seq (T.seq (T.go' aa ?_))
     simp[hC,eS]
     refine TL.bT (by simp[hC]) rfl rfl rfl rfl (aI.of rfl (by first | rfl | simp only[List.cons_append,List.nil_append,List.append_nil,trees,tree,ag,ak,Bool.and_self,Bool.and_true,Bool.true_and]) (hn)) (TL.go' aa ?_)
     simp[hC]
     refine TL.bT (by simp[hC]) rfl rfl rfl rfl (aI.of rfl (by first | rfl | simp only[List.cons_append,List.nil_append,List.append_nil,trees,tree,ag,ak,Bool.and_self,Bool.and_true,Bool.true_and]) (hno)) (TL.go' aa ?_)
     simp[hC]
     refine TL.bT (by simp[hC]) rfl rfl rfl rfl (aI.of rfl (by first | rfl | simp only[List.cons_append,List.nil_append,List.append_nil,trees,tree,ag,ak,Bool.and_self,Bool.and_true,Bool.true_and]) (gw)) (TL.go' aa ?_)
     simp[hC]
     refine T.cond (b:=false) rfl ?_
     simp
     refine T.skip ?_
     simp
     refine T.cut (fun s=>s=⟨[(7,I 3),(6,.aq 0 0),(5,I i),(0,.ax (bt l) l.length),(1,I deep)],[(0,⟨188,0,[I 3,.str nm,I 0,I 0,.str ⟨#[]⟩,.ax [] 0,.str ⟨#[]⟩,.ax [] 0,.ax (al.flatMap ni) al.length,.ax [] 0,.ax [] 0]⟩)],1⟩) ?_ ?_
     ·refine T.seq (T.go' aa ?_)
      simp[hC]
      refine T.block ?_
      refine T.aS (fun m s=>∃ k:Nat,m=al.length-k∧k≤al.length∧s=⟨[(12,I k),(7,I 3),(6,.aq 0 0),(5,I i),(0,.ax (bt l) l.length),(1,I deep)],[(0,⟨188,0,[I 3,.str nm,I 0,I 0,.str ⟨#[]⟩,.ax [] 0,.str ⟨#[]⟩,.ax [] 0,.ax (al.flatMap ni) al.length,.ax [] 0,.ax [] 0]⟩)],1⟩) (n:=al.length) ?_ ?_
      ·refine ae.trim [12,7,6,5,0,1] [0] 1 (by simp) (by omega) ⟨0,by omega,by omega,?_⟩
       simp
      ·rintro m s ⟨k,rfl,hk,rfl⟩
       by_cases hkl:k<al.length
       ·obtain⟨a,hka⟩:∃ a,al[k]? = some a:=⟨al[k],List.getElem?_eq_getElem hkl⟩
        have hadr:=hafl k a hka
        have hao:=hafl1 k a hka
        have wk:=db ((k:Int)+1) (by omega) (by omega)
        refine T.seq (T.seq (T.go' aa ?_))
        simp[hC,hkl]
        refine T.cond (b:=true) rfl (T.skip ?_)
        simp
        refine T.seq (T.block ?_)
        cases a with
        | sr r=>
         have hok:=sq r hao
         obtain⟨rn,ri⟩:=r
         obtain⟨q1,q2,hq⟩:∃ cs n,nu ri=.ax cs n:=by cases ri<;>exact⟨_,_,rfl⟩
         simp only[j3,hq] at hok
         simp only[ni,bB,j3,hq,List.cons_append,List.nil_append] at hadr
         refine T.seq (T.go' aa ?_)
         simp[hC,hkl,hadr]
         refine T.seq (T.go' aa ?_)
         simp[hC]
         refine TL.bT (by simp[hC]) rfl rfl rfl rfl (aI.of rfl (by first | rfl | simp only[List.cons_append,List.nil_append,List.append_nil,trees,tree,ag,ak,Bool.and_self,Bool.and_true,Bool.true_and]) (hok)) (TL.go' aa ?_)
         simp[hC]
         refine TL.bT (by simp[hC]) rfl rfl rfl rfl (aI.of rfl (by first | rfl | simp only[List.cons_append,List.nil_append,List.append_nil,trees,tree,ag,ak,Bool.and_self,Bool.and_true,Bool.true_and]) (hno)) (TL.go' aa ?_)
         simp[hC]
         refine T.cond (b:=false) rfl ?_
         simp
         refine T.skip ?_
         simp
         refine T.go' aa ?_
         simp[hC,wk]
         refine⟨al.length-(k+1),by omega,?_⟩
         refine ae.trim [12,7,6,5,0,1] [0] 1 (by simp) (by omega) ⟨k+1,rfl,by omega,?_⟩
         simp
        | exp e=>
         simp only[okA,bP e] at hao
         simp only[ni,bP e,j5,List.cons_append,List.nil_append] at hadr
         refine T.seq (T.go' aa ?_)
         simp[hC,hkl,hadr]
         refine T.seq (T.go' aa ?_)
         simp[hC]
         refine TL.bT (by simp[hC]) rfl rfl rfl rfl (aI.of rfl (by first | rfl | simp only[List.cons_append,List.nil_append,List.append_nil,trees,tree,ag,ak,Bool.and_self,Bool.and_true,Bool.true_and]) (gw)) (TL.go' aa ?_)
         simp[hC]
         refine TL.bT (by simp[hC]) rfl rfl rfl rfl (aI.of rfl (by first | rfl | simp only[List.cons_append,List.nil_append,List.append_nil,trees,tree,ag,ak,Bool.and_self,Bool.and_true,Bool.true_and]) (hao)) (TL.go' aa ?_)
         simp[hC]
         refine T.cond (b:=false) rfl ?_
         simp
         refine T.skip ?_
         simp
         refine T.go' aa ?_
         simp[hC,wk]
         refine⟨al.length-(k+1),by omega,?_⟩
         refine ae.trim [12,7,6,5,0,1] [0] 1 (by simp) (by omega) ⟨k+1,rfl,by omega,?_⟩
         simp
       ·refine T.seq (T.seq (T.go' aa ?_))
        simp[hC,hkl]
        refine T.cond (b:=false) rfl ?_
        simp
        refine T.exit ?_
        simp
        refine ae.trim [7,6,5,0,1] [0] 1 (by simp) (by omega) ?_
        simp
     rintro s rfl
     refine T.seq (T.go' aa ?_)
     simp[hC]
     refine T.seq (T.go' aa ?_)
     simp[hC]
     refine T.cond (b:=false) rfl ?_
     simp
     refine T.skip ?_
     simp
     refine T.go' aa ?_
     simp[hC,wi]
     refine⟨l.length-(i+1),by omega,?_⟩
     refine ae.trim [5,0,1] [] 0 (by simp) (by omega) ⟨i+1,rfl,by omega,?_⟩
     simp
    | true=>
     have e5:(if true=true then (4:Int) else 3)=4:=rfl
     rw[e5] at hdr
     refine T.seq (T.go' aa ?_)
     simp[hC,hil,hdr]
     refine T.seq (T.go' aa ?_)
     simp[hC]
     refine T.seq (T.go' aa ?_)
     simp[hC]
     refine T.seq (T.go' aa ?_)
     simp[hC]
     refine T.seq (T.go' aa ?_)
     simp[hC]
     refine T.le (Le.trim [11,10,9,8,7,6,5,0,1] [0] 1 (by simp) (by omega)) ?_
     simp
     refine T.seq (T.seq (T.go' aa ?_))
     simp[hC,eS]
     refine TL.bT (by simp[hC]) rfl rfl rfl rfl (aI.of rfl (by first | rfl | simp only[List.cons_append,List.nil_append,List.append_nil,trees,tree,ag,ak,Bool.and_self,Bool.and_true,Bool.true_and]) (hn)) (TL.go' aa ?_)
     simp[hC]
     refine TL.bT (by simp[hC]) rfl rfl rfl rfl (aI.of rfl (by first | rfl | simp only[List.cons_append,List.nil_append,List.append_nil,trees,tree,ag,ak,Bool.and_self,Bool.and_true,Bool.true_and]) (hno)) (TL.go' aa ?_)
     simp[hC]
     refine TL.bT (by simp[hC]) rfl rfl rfl rfl (aI.of rfl (by first | rfl | simp only[List.cons_append,List.nil_append,List.append_nil,trees,tree,ag,ak,Bool.and_self,Bool.and_true,Bool.true_and]) (gw)) (TL.go' aa ?_)
     simp[hC]
     refine T.cond (b:=false) rfl ?_
     simp
     refine T.skip ?_
     simp
     refine T.cut (fun s=>s=⟨[(7,I 4),(6,.aq 0 0),(5,I i),(0,.ax (bt l) l.length),(1,I deep)],[(0,⟨188,0,[I 4,.str nm,I 0,I 0,.str ⟨#[]⟩,.ax [] 0,.str ⟨#[]⟩,.ax [] 0,.ax (al.flatMap ni) al.length,.ax [] 0,.ax [] 0]⟩)],1⟩) ?_ ?_
     ·refine T.seq (T.go' aa ?_)
      simp[hC]
      refine T.block ?_
      refine T.aS (fun m s=>∃ k:Nat,m=al.length-k∧k≤al.length∧s=⟨[(12,I k),(7,I 4),(6,.aq 0 0),(5,I i),(0,.ax (bt l) l.length),(1,I deep)],[(0,⟨188,0,[I 4,.str nm,I 0,I 0,.str ⟨#[]⟩,.ax [] 0,.str ⟨#[]⟩,.ax [] 0,.ax (al.flatMap ni) al.length,.ax [] 0,.ax [] 0]⟩)],1⟩) (n:=al.length) ?_ ?_
      ·refine ae.trim [12,7,6,5,0,1] [0] 1 (by simp) (by omega) ⟨0,by omega,by omega,?_⟩
       simp
      ·rintro m s ⟨k,rfl,hk,rfl⟩
       by_cases hkl:k<al.length
       ·obtain⟨a,hka⟩:∃ a,al[k]? = some a:=⟨al[k],List.getElem?_eq_getElem hkl⟩
        have hadr:=hafl k a hka
        have hao:=hafl1 k a hka
        have wk:=db ((k:Int)+1) (by omega) (by omega)
        refine T.seq (T.seq (T.go' aa ?_))
        simp[hC,hkl]
        refine T.cond (b:=true) rfl (T.skip ?_)
        simp
        refine T.seq (T.block ?_)
        cases a with
        | sr r=>
         have hok:=sq r hao
         obtain⟨rn,ri⟩:=r
         obtain⟨q1,q2,hq⟩:∃ cs n,nu ri=.ax cs n:=by cases ri<;>exact⟨_,_,rfl⟩
         simp only[j3,hq] at hok
         simp only[ni,bB,j3,hq,List.cons_append,List.nil_append] at hadr
         refine T.seq (T.go' aa ?_)
         simp[hC,hkl,hadr]
         refine T.seq (T.go' aa ?_)
         simp[hC]
         refine TL.bT (by simp[hC]) rfl rfl rfl rfl (aI.of rfl (by first | rfl | simp only[List.cons_append,List.nil_append,List.append_nil,trees,tree,ag,ak,Bool.and_self,Bool.and_true,Bool.true_and]) (hok)) (TL.go' aa ?_)
         simp[hC]
         refine TL.bT (by simp[hC]) rfl rfl rfl rfl (aI.of rfl (by first | rfl | simp only[List.cons_append,List.nil_append,List.append_nil,trees,tree,ag,ak,Bool.and_self,Bool.and_true,Bool.true_and]) (hno)) (TL.go' aa ?_)
         simp[hC]
         refine T.cond (b:=false) rfl ?_
         simp
         refine T.skip ?_
         simp
         refine T.go' aa ?_
         simp[hC,wk]
         refine⟨al.length-(k+1),by omega,?_⟩
         refine ae.trim [12,7,6,5,0,1] [0] 1 (by simp) (by omega) ⟨k+1,rfl,by omega,?_⟩
         simp
        | exp e=>
         simp only[okA,bP e] at hao
         simp only[ni,bP e,j5,List.cons_append,List.nil_append] at hadr
         refine T.seq (T.go' aa ?_)
         simp[hC,hkl,hadr]
         refine T.seq (T.go' aa ?_)
         simp[hC]
         refine TL.bT (by simp[hC]) rfl rfl rfl rfl (aI.of rfl (by first | rfl | simp only[List.cons_append,List.nil_append,List.append_nil,trees,tree,ag,ak,Bool.and_self,Bool.and_true,Bool.true_and]) (gw)) (TL.go' aa ?_)
         simp[hC]
         refine TL.bT (by simp[hC]) rfl rfl rfl rfl (aI.of rfl (by first | rfl | simp only[List.cons_append,List.nil_append,List.append_nil,trees,tree,ag,ak,Bool.and_self,Bool.and_true,Bool.true_and]) (hao)) (TL.go' aa ?_)
         simp[hC]
         refine T.cond (b:=false) rfl ?_
         simp
         refine T.skip ?_
         simp
         refine T.go' aa ?_
         simp[hC,wk]
         refine⟨al.length-(k+1),by omega,?_⟩
         refine ae.trim [12,7,6,5,0,1] [0] 1 (by simp) (by omega) ⟨k+1,rfl,by omega,?_⟩
         simp
       ·refine T.seq (T.seq (T.go' aa ?_))
        simp[hC,hkl]
        refine T.cond (b:=false) rfl ?_
        simp
        refine T.exit ?_
        simp
        refine ae.trim [7,6,5,0,1] [0] 1 (by simp) (by omega) ?_
        simp
     rintro s rfl
     refine T.seq (T.go' aa ?_)
     simp[hC]
     refine T.seq (T.go' aa ?_)
     simp[hC]
     refine T.cond (b:=false) rfl ?_
     simp
     refine T.skip ?_
     simp
     refine T.go' aa ?_
     simp[hC,wi]
     refine⟨l.length-(i+1),by omega,?_⟩
     refine ae.trim [5,0,1] [] 0 (by simp) (by omega) ⟨i+1,rfl,by omega,?_⟩
     simp
  ·refine T.seq (T.seq (T.go' aa ?_))
   simp[hC,hil]
   refine T.cond (b:=false) rfl ?_
   simp
   refine T.exit ?_
   simp
   refine T.seq (T.go' aa ?_)
   simp[hC]
   refine T.ret ?_
   refine ae.here ?_
   simp[Tryz.results90]
end Go.Proofs.YtmnglemlimfpbaaGreat
