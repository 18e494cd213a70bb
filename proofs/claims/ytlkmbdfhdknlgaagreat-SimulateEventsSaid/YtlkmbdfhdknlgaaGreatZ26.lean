/- noExpr, noRef, okRef, okSt -/
import Derived.Test.YtlkmbdfhdknlgaaGreatZ25
namespace Go.Proofs.YtlkmbdfhdknlgaaGreat
open Go.Can Go.aJ List Tryz
theorem ui:ae prog 161 [.agg (bf .zero)] (.bool true):=by
 refine ae.aE ah Tryz.func161 rfl Ix (by simp[Tryz.ntmps161]) rfl λ C hC RR=>?_;rw[Tryz.ntmps161] at hC;apply aq;simp[hC,bf,eS];apply aq;simp[hC,jb];apply T.ret;apply aa.here;simp[Tryz.results161]
theorem iD:ae prog 163 [.agg lP] (.bool true):=by
 refine ae.aE ah Tryz.func163 rfl Ix (by simp[Tryz.ntmps163]) rfl λ C hC RR=>?_;rw[Tryz.ntmps163] at hC;apply aq;simp[hC,lP,eS];apply aq;simp[hC,jb];apply T.ret;apply aa.here;simp[Tryz.results163]
def RfR (r:Rf):Prop:=nX r.name/\∀ e,r.index=some e->ae prog 160 [.agg (bf e)] (.bool true)
theorem xb (r:Rf)(h:RfR r):ae prog 162 [.agg (lN r)] (.bool true):=by
 obtain⟨nm,ix⟩:=r;obtain⟨h1,h2⟩:=h;have hn:=jU nm h1.1 h1.2;refine ae.aE ah Tryz.func162 rfl Ix (by simp[Tryz.ntmps162]) rfl λ C hC RR=>?_;rw[Tryz.ntmps162] at hC
 cases ix with
 | none=>
  apply aq;simp[hC,lN,oc];apply aq;simp[hC];refine cX R2 (hn) ?_;simp[hC];apply T.ret;apply aa.here;simp[Tryz.results162]
 | some e=>
  have hv:=h2 e rfl;apply aq;simp[hC,lN,oc];apply aq;simp[hC];refine cX R2 (hn) ?_;simp[hC];refine TL.cM RT rfl rfl rfl rfl (bU.of rfl ZH (hv)) (TL.go' ah ?_);simp[hC];apply T.ret;apply aa.here;simp[Tryz.results162]
def okA (a:Ar):Prop:=match a with
 | .xf r=>RfR r
 | .exp e=>ae prog 160 [.agg (bf e)] (.bool true)
def J90 (l:List Sm)(deep:Nat)(n:Nat)(s:St):Prop:=∃ i:Nat,n=l.length-i/\i<=l.length/\s=⟨[(5,I i),(0,.ax (bO l) l.length),(1,I deep)],[],0⟩
set_option maxHeartbeats 8000000 in
theorem AA (l:List Sm)(deep:Nat)(hd:deep<20)(hl:l.length<=100000)
  (h:∀ s∈l,(match s with
   | .iz nm e=>nX nm/\ae prog 160 [.agg (bf e)] (.bool true)
   | .jd nm e=>nX nm/\ae prog 160 [.agg (bf e)] (.bool true)
   | .eJ _ nm al=>nX nm/\al.length<=1000/\∀ a∈al,okA a
   | .dP _ r=>RfR r
   | .mf e th el=>ae prog 160 [.agg (bf e)] (.bool true)/\ae prog 127 [.ax (bO th) th.length,I ((deep+1:Nat))] (.bool true)/\ae prog 127 [.ax (bO el) el.length,I ((deep+1:Nat))] (.bool true)
   | .cS e th=>ae prog 160 [.agg (bf e)] (.bool true)/\ae prog 127 [.ax (bO th) th.length,I ((deep+1:Nat))] (.bool true)
   | .jP=>True)):ae prog 127 [.ax (bO l) l.length,I deep] (.bool true):=by
 have Tl:=λ (i:Nat) (x:Sm) (h:l[i]? = some x)=>aI (f:=iR) (n:=11) lg (m:=l) h;rw[<- pB] at Tl;have hd24:¬ (24:Int)<=deep:=by omega
 have wd:=cF ((deep:Int)+1) yA yA;refine ae.aE ah Tryz.func127 rfl Ix (by simp[Tryz.ntmps127]) rfl λ C hC RR=>?_;rw[Tryz.ntmps127] at hC;apply aq;simp[hC];apply aW;simp[hC,hd24];refine a9 ?_;simp;apply T.skip;simp;apply aW;simp[hC];apply T.block;refine T.aH (J90 l deep) (n:=l.length) ?_ ?_
 ·refine aa.le (Le.env [5,0,1]) (aa.here ⟨0,by omega,by omega,?_⟩);simp
 ·rintro n s ⟨i,rfl,hi,rfl⟩;by_cases Og:i<l.length
  ·obtain⟨x,hx⟩:∃ x,l[i]? = some x:=⟨l[i],getElem?_eq_getElem Og⟩;have Qd:=Tl i x hx;have hh:=h x (mem_of_getElem? hx);have wi:=cF ((i:Int)+1) yA yA;apply aW;simp[hC,Og];refine gw ?_;simp;apply eN
   cases x with
   | iz nm e=>
    obtain⟨h1,h2⟩:=hh;have hn:=jU nm h1.1 h1.2;simp only[iR,bW e,lP,cons_append,nil_append] at Qd;rw[bW e] at h2;apply aq;simp[hC,Og,Qd];apply aq;simp[hC];apply aq;simp[hC];apply aq;simp[hC];apply aq;simp[hC];refine T.le (Le.trim [11,10,9,8,7,6,5,0,1] [0] 1 xr yA) ?_;simp;apply aW;simp[hC];refine TL.cM RT rfl rfl rfl rfl (bU.of rfl R2 (hn)) (TL.go' ah ?_);simp[hC];refine TL.cM RT rfl rfl rfl rfl (bU.of rfl R2 (h2)) (TL.go' ah ?_);simp[hC];refine TL.cM RT rfl rfl rfl rfl (bU.of rfl R2 (iD)) (TL.go' ah ?_);simp[hC];refine a9 ?_;simp;apply T.skip;simp;refine T.cut (λ s=>s=⟨[(7,I 1),(6,.aw 0 0),(5,I i),(0,.ax (bO l) l.length),(1,I deep)],[(0,⟨207,0,[I 1,.str nm,I e.op,I e.n,.str e.name,.ax (e.args.flatMap bf) e.args.length,.str eS,.ax [] 0,.ax [] 0,.ax [] 0,.ax [] 0]⟩)],1⟩) ?_ ?_
    ·apply aq;simp[hC];apply T.block;refine T.aH (λ m s=>s=⟨[(12,.int .i64 0),(7,I 1),(6,.aw 0 0),(5,I i),(0,.ax (bO l) l.length),(1,I deep)],[(0,⟨207,0,[I 1,.str nm,I e.op,I e.n,.str e.name,.ax (e.args.flatMap bf) e.args.length,.str eS,.ax [] 0,.ax [] 0,.ax [] 0,.ax [] 0]⟩)],1⟩) (n:=0) ?_ ?_
     ·refine aa.trim [12,7,6,5,0,1] [0] 1 xr yA ?_;simp
     ·rintro m s rfl;apply aW;simp[hC];refine a9 ?_;simp;apply T.exit;simp;refine aa.trim [7,6,5,0,1] [0] 1 xr yA ?_;simp
    rintro s rfl;apply aq;simp[hC];apply aq;simp[hC];refine a9 ?_;simp;apply T.skip;simp;apply aN;simp[hC,wi];refine⟨l.length-(i+1),by omega,?_⟩;refine aa.trim [5,0,1] [] 0 xr yA ⟨i+1,rfl,by omega,?_⟩;simp
   | jd nm e=>
    obtain⟨h1,h2⟩:=hh;have hn:=jU nm h1.1 h1.2;simp only[iR,bW e,lP,cons_append,nil_append] at Qd;rw[bW e] at h2;apply aq;simp[hC,Og,Qd];apply aq;simp[hC];apply aq;simp[hC];apply aq;simp[hC];apply aq;simp[hC];refine T.le (Le.trim [11,10,9,8,7,6,5,0,1] [0] 1 xr yA) ?_;simp;apply aW;simp[hC];refine TL.cM RT rfl rfl rfl rfl (bU.of rfl R2 (hn)) (TL.go' ah ?_);simp[hC];refine TL.cM RT rfl rfl rfl rfl (bU.of rfl R2 (h2)) (TL.go' ah ?_);simp[hC];refine TL.cM RT rfl rfl rfl rfl (bU.of rfl R2 (iD)) (TL.go' ah ?_);simp[hC];refine a9 ?_;simp;apply T.skip;simp;refine T.cut (λ s=>s=⟨[(7,I 2),(6,.aw 0 0),(5,I i),(0,.ax (bO l) l.length),(1,I deep)],[(0,⟨207,0,[I 2,.str nm,I e.op,I e.n,.str e.name,.ax (e.args.flatMap bf) e.args.length,.str eS,.ax [] 0,.ax [] 0,.ax [] 0,.ax [] 0]⟩)],1⟩) ?_ ?_
    ·apply aq;simp[hC];apply T.block;refine T.aH (λ m s=>s=⟨[(12,.int .i64 0),(7,I 2),(6,.aw 0 0),(5,I i),(0,.ax (bO l) l.length),(1,I deep)],[(0,⟨207,0,[I 2,.str nm,I e.op,I e.n,.str e.name,.ax (e.args.flatMap bf) e.args.length,.str eS,.ax [] 0,.ax [] 0,.ax [] 0,.ax [] 0]⟩)],1⟩) (n:=0) ?_ ?_
     ·refine aa.trim [12,7,6,5,0,1] [0] 1 xr yA ?_;simp
     ·rintro m s rfl;apply aW;simp[hC];refine a9 ?_;simp;apply T.exit;simp;refine aa.trim [7,6,5,0,1] [0] 1 xr yA ?_;simp
    rintro s rfl;apply aq;simp[hC];apply aq;simp[hC];refine a9 ?_;simp;apply T.skip;simp;apply aN;simp[hC,wi];refine⟨l.length-(i+1),by omega,?_⟩;refine aa.trim [5,0,1] [] 0 xr yA ⟨i+1,rfl,by omega,?_⟩;simp
   | jP=>
    have SX:=ui;simp only[iR,bf,lP,cons_append,nil_append] at Qd SX;apply aq;simp[hC,Og,Qd];apply aq;simp[hC];apply aq;simp[hC];apply aq;simp[hC];apply aq;simp[hC];refine T.le (Le.trim [11,10,9,8,7,6,5,0,1] [0] 1 xr yA) ?_;simp;apply aW;simp[hC,j8,eS];refine TL.cM RT rfl rfl rfl rfl (bU.of rfl R2 (SX)) (TL.go' ah ?_);simp[hC];refine TL.cM RT rfl rfl rfl rfl (bU.of rfl R2 (iD)) (TL.go' ah ?_);simp[hC];refine a9 ?_;simp;apply T.skip;simp;refine T.cut (λ s=>s=⟨[(7,I 9),(6,.aw 0 0),(5,I i),(0,.ax (bO l) l.length),(1,I deep)],[(0,⟨207,0,[I 9,.str ⟨#[]⟩,I 0,I 0,.str ⟨#[]⟩,.ax [] 0,.str ⟨#[]⟩,.ax [] 0,.ax [] 0,.ax [] 0,.ax [] 0]⟩)],1⟩) ?_ ?_
    ·apply aq;simp[hC];apply T.block;refine T.aH (λ m s=>s=⟨[(12,.int .i64 0),(7,I 9),(6,.aw 0 0),(5,I i),(0,.ax (bO l) l.length),(1,I deep)],[(0,⟨207,0,[I 9,.str ⟨#[]⟩,I 0,I 0,.str ⟨#[]⟩,.ax [] 0,.str ⟨#[]⟩,.ax [] 0,.ax [] 0,.ax [] 0,.ax [] 0]⟩)],1⟩) (n:=0) ?_ ?_
     ·refine aa.trim [12,7,6,5,0,1] [0] 1 xr yA ?_;simp
     ·rintro m s rfl;apply aW;simp[hC];refine a9 ?_;simp;apply T.exit;simp;refine aa.trim [7,6,5,0,1] [0] 1 xr yA ?_;simp
    rintro s rfl;apply aq;simp[hC];apply aq;simp[hC];refine a9 ?_;simp;apply T.skip;simp;apply aN;simp[hC,wi];refine⟨l.length-(i+1),by omega,?_⟩;refine aa.trim [5,0,1] [] 0 xr yA ⟨i+1,rfl,by omega,?_⟩;simp
   | dP u r=>
    have SX:=ui;have Sg:=xb r hh;obtain⟨rn,ri⟩:=r;obtain⟨q1,q2,hq⟩:∃ cs n,oc ri=.ax cs n:=by cases ri<;>exact⟨_,_,rfl⟩
    simp only[lN,hq] at Sg;simp only[iR,bf,lN,hq,cons_append,nil_append] at Qd SX
    cases u with
    | false=>
     have e5:(if false=true then (6:Int) else 5)=5:=rfl;rw[e5] at Qd;apply aq;simp[hC,Og,Qd];apply aq;simp[hC];apply aq;simp[hC];apply aq;simp[hC];apply aq;simp[hC];refine T.le (Le.trim [11,10,9,8,7,6,5,0,1] [0] 1 xr yA) ?_;simp;apply aW;simp[hC,j8,eS];refine TL.cM RT rfl rfl rfl rfl (bU.of rfl R2 (SX)) (TL.go' ah ?_);simp[hC];refine TL.cM RT rfl rfl rfl rfl (bU.of rfl R2 (Sg)) (TL.go' ah ?_);simp[hC];refine a9 ?_;simp;apply T.skip;simp;refine T.cut (λ s=>s=⟨[(7,I 5),(6,.aw 0 0),(5,I i),(0,.ax (bO l) l.length),(1,I deep)],[(0,⟨207,0,[I 5,.str ⟨#[]⟩,I 0,I 0,.str ⟨#[]⟩,.ax [] 0,.str rn,.ax q1 q2,.ax [] 0,.ax [] 0,.ax [] 0]⟩)],1⟩) ?_ ?_
     ·apply aq;simp[hC];apply T.block;refine T.aH (λ m s=>s=⟨[(12,.int .i64 0),(7,I 5),(6,.aw 0 0),(5,I i),(0,.ax (bO l) l.length),(1,I deep)],[(0,⟨207,0,[I 5,.str ⟨#[]⟩,I 0,I 0,.str ⟨#[]⟩,.ax [] 0,.str rn,.ax q1 q2,.ax [] 0,.ax [] 0,.ax [] 0]⟩)],1⟩) (n:=0) ?_ ?_
      ·refine aa.trim [12,7,6,5,0,1] [0] 1 xr yA ?_;simp
      ·rintro m s rfl;apply aW;simp[hC];refine a9 ?_;simp;apply T.exit;simp;refine aa.trim [7,6,5,0,1] [0] 1 xr yA ?_;simp
     rintro s rfl;apply aq;simp[hC];apply aq;simp[hC];refine a9 ?_;simp;apply T.skip;simp;apply aN;simp[hC,wi];refine⟨l.length-(i+1),by omega,?_⟩;refine aa.trim [5,0,1] [] 0 xr yA ⟨i+1,rfl,by omega,?_⟩;simp
    | true=>
     have e5:(if true=true then (6:Int) else 5)=6:=rfl;rw[e5] at Qd;apply aq;simp[hC,Og,Qd];apply aq;simp[hC];apply aq;simp[hC];apply aq;simp[hC];apply aq;simp[hC];refine T.le (Le.trim [11,10,9,8,7,6,5,0,1] [0] 1 xr yA) ?_;simp;apply aW;simp[hC,j8,eS];refine TL.cM RT rfl rfl rfl rfl (bU.of rfl R2 (SX)) (TL.go' ah ?_);simp[hC];refine TL.cM RT rfl rfl rfl rfl (bU.of rfl R2 (Sg)) (TL.go' ah ?_);simp[hC];refine a9 ?_;simp;apply T.skip;simp;refine T.cut (λ s=>s=⟨[(7,I 6),(6,.aw 0 0),(5,I i),(0,.ax (bO l) l.length),(1,I deep)],[(0,⟨207,0,[I 6,.str ⟨#[]⟩,I 0,I 0,.str ⟨#[]⟩,.ax [] 0,.str rn,.ax q1 q2,.ax [] 0,.ax [] 0,.ax [] 0]⟩)],1⟩) ?_ ?_
     ·apply aq;simp[hC];apply T.block;refine T.aH (λ m s=>s=⟨[(12,.int .i64 0),(7,I 6),(6,.aw 0 0),(5,I i),(0,.ax (bO l) l.length),(1,I deep)],[(0,⟨207,0,[I 6,.str ⟨#[]⟩,I 0,I 0,.str ⟨#[]⟩,.ax [] 0,.str rn,.ax q1 q2,.ax [] 0,.ax [] 0,.ax [] 0]⟩)],1⟩) (n:=0) ?_ ?_
      ·refine aa.trim [12,7,6,5,0,1] [0] 1 xr yA ?_;simp
      ·rintro m s rfl;apply aW;simp[hC];refine a9 ?_;simp;apply T.exit;simp;refine aa.trim [7,6,5,0,1] [0] 1 xr yA ?_;simp
     rintro s rfl;apply aq;simp[hC];apply aq;simp[hC];refine a9 ?_;simp;apply T.skip;simp;apply aN;simp[hC,wi];refine⟨l.length-(i+1),by omega,?_⟩;refine aa.trim [5,0,1] [] 0 xr yA ⟨i+1,rfl,by omega,?_⟩;simp
   | mf e th el=>
    obtain⟨h2,h3,h4⟩:=hh;simp only[iR,bW e,lP,cons_append,nil_append] at Qd;rw[bW e] at h2;have c1:(((deep+1:Nat)):Int)=deep+1:=by omega
    rw[c1] at h3 h4;apply aq;simp[hC,Og,Qd];apply aq;simp[hC];apply aq;simp[hC];apply aq;simp[hC];apply aq;simp[hC];refine T.le (Le.trim [11,10,9,8,7,6,5,0,1] [0] 1 xr yA) ?_;simp;apply aW;simp[hC,j8,eS];refine TL.cM RT rfl rfl rfl rfl (bU.of rfl R2 (h2)) (TL.go' ah ?_);simp[hC];refine TL.cM RT rfl rfl rfl rfl (bU.of rfl R2 (iD)) (TL.go' ah ?_);simp[hC];refine a9 ?_;simp;apply T.skip;simp;refine T.cut (λ s=>s=⟨[(7,I 7),(6,.aw 0 0),(5,I i),(0,.ax (bO l) l.length),(1,I deep)],[(0,⟨207,0,[I 7,.str ⟨#[]⟩,I e.op,I e.n,.str e.name,.ax (e.args.flatMap bf) e.args.length,.str ⟨#[]⟩,.ax [] 0,.ax [] 0,.ax (bO th) th.length,.ax (bO el) el.length]⟩)],1⟩) ?_ ?_
    ·apply aq;simp[hC];apply T.block;refine T.aH (λ m s=>s=⟨[(12,.int .i64 0),(7,I 7),(6,.aw 0 0),(5,I i),(0,.ax (bO l) l.length),(1,I deep)],[(0,⟨207,0,[I 7,.str ⟨#[]⟩,I e.op,I e.n,.str e.name,.ax (e.args.flatMap bf) e.args.length,.str ⟨#[]⟩,.ax [] 0,.ax [] 0,.ax (bO th) th.length,.ax (bO el) el.length]⟩)],1⟩) (n:=0) ?_ ?_
     ·refine aa.trim [12,7,6,5,0,1] [0] 1 xr yA ?_;simp
     ·rintro m s rfl;apply aW;simp[hC];refine a9 ?_;simp;apply T.exit;simp;refine aa.trim [7,6,5,0,1] [0] 1 xr yA ?_;simp
    rintro s rfl;apply aq;simp[hC];by_cases R7:0<el.length
    ·apply aq;simp[hC,wd];refine TL.cM RT rfl rfl rfl rfl (bU.of rfl R2 (h3)) (TL.go' ah ?_);simp[hC,R7,wd];refine TL.cM RT rfl rfl rfl rfl (bU.of rfl R2 (h4)) (TL.go' ah ?_);simp[hC];refine a9 ?_;simp;apply T.skip;simp;apply aN;simp[hC,wi];refine⟨l.length-(i+1),by omega,?_⟩;refine aa.trim [5,0,1] [] 0 xr yA ⟨i+1,rfl,by omega,?_⟩;simp
    ·apply aq;simp[hC,wd];refine TL.cM RT rfl rfl rfl rfl (bU.of rfl R2 (h3)) (TL.go' ah ?_);simp[hC,R7];refine a9 ?_;simp;apply T.skip;simp;apply aN;simp[hC,wi];refine⟨l.length-(i+1),by omega,?_⟩;refine aa.trim [5,0,1] [] 0 xr yA ⟨i+1,rfl,by omega,?_⟩;simp
   | cS e th=>
    obtain⟨h2,h3⟩:=hh;simp only[iR,bW e,lP,cons_append,nil_append] at Qd;rw[bW e] at h2;have c1:(((deep+1:Nat)):Int)=deep+1:=by omega
    rw[c1] at h3;apply aq;simp[hC,Og,Qd];apply aq;simp[hC];apply aq;simp[hC];apply aq;simp[hC];apply aq;simp[hC];refine T.le (Le.trim [11,10,9,8,7,6,5,0,1] [0] 1 xr yA) ?_;simp;apply aW;simp[hC,j8,eS];refine TL.cM RT rfl rfl rfl rfl (bU.of rfl R2 (h2)) (TL.go' ah ?_);simp[hC];refine TL.cM RT rfl rfl rfl rfl (bU.of rfl R2 (iD)) (TL.go' ah ?_);simp[hC];refine a9 ?_;simp;apply T.skip;simp;refine T.cut (λ s=>s=⟨[(7,I 8),(6,.aw 0 0),(5,I i),(0,.ax (bO l) l.length),(1,I deep)],[(0,⟨207,0,[I 8,.str ⟨#[]⟩,I e.op,I e.n,.str e.name,.ax (e.args.flatMap bf) e.args.length,.str ⟨#[]⟩,.ax [] 0,.ax [] 0,.ax (bO th) th.length,.ax [] 0]⟩)],1⟩) ?_ ?_
    ·apply aq;simp[hC];apply T.block;refine T.aH (λ m s=>s=⟨[(12,.int .i64 0),(7,I 8),(6,.aw 0 0),(5,I i),(0,.ax (bO l) l.length),(1,I deep)],[(0,⟨207,0,[I 8,.str ⟨#[]⟩,I e.op,I e.n,.str e.name,.ax (e.args.flatMap bf) e.args.length,.str ⟨#[]⟩,.ax [] 0,.ax [] 0,.ax (bO th) th.length,.ax [] 0]⟩)],1⟩) (n:=0) ?_ ?_
     ·refine aa.trim [12,7,6,5,0,1] [0] 1 xr yA ?_;simp
     ·rintro m s rfl;apply aW;simp[hC];refine a9 ?_;simp;apply T.exit;simp;refine aa.trim [7,6,5,0,1] [0] 1 xr yA ?_;simp
    rintro s rfl;apply aq;simp[hC];apply aq;simp[hC,wd];refine TL.cM RT rfl rfl rfl rfl (bU.of rfl R2 (h3)) (TL.go' ah ?_);simp[hC];refine a9 ?_;simp;apply T.skip;simp;apply aN;simp[hC,wi];refine⟨l.length-(i+1),by omega,?_⟩;refine aa.trim [5,0,1] [] 0 xr yA ⟨i+1,rfl,by omega,?_⟩;simp
   | eJ g nm al=>
    obtain⟨h1,h2,h3⟩:=hh;have hn:=jU nm h1.1 h1.2;have SX:=ui;simp only[iR,bf,lP,cons_append,nil_append] at Qd SX;have Y0:=λ (k:Nat) (a:Ar) (h:al[k]? = some a)=>aI (f:=qc) (n:=7) vV (m:=al) h;have Zx:=λ (k:Nat) (a:Ar) (h:al[k]? = some a)=>h3 a (mem_of_getElem? h);clear h3
    cases g with
    | false=>
     have e5:(if false=true then (4:Int) else 3)=3:=rfl;rw[e5] at Qd;apply aq;simp[hC,Og,Qd];apply aq;simp[hC];apply aq;simp[hC];apply aq;simp[hC];apply aq;simp[hC];refine T.le (Le.trim [11,10,9,8,7,6,5,0,1] [0] 1 xr yA) ?_;simp;apply aW;simp[hC,eS];refine TL.cM RT rfl rfl rfl rfl (bU.of rfl R2 (hn)) (TL.go' ah ?_);simp[hC];refine TL.cM RT rfl rfl rfl rfl (bU.of rfl R2 (SX)) (TL.go' ah ?_);simp[hC];refine TL.cM RT rfl rfl rfl rfl (bU.of rfl R2 (iD)) (TL.go' ah ?_);simp[hC];refine a9 ?_;simp;apply T.skip;simp;refine T.cut (λ s=>s=⟨[(7,I 3),(6,.aw 0 0),(5,I i),(0,.ax (bO l) l.length),(1,I deep)],[(0,⟨207,0,[I 3,.str nm,I 0,I 0,.str ⟨#[]⟩,.ax [] 0,.str ⟨#[]⟩,.ax [] 0,.ax (al.flatMap qc) al.length,.ax [] 0,.ax [] 0]⟩)],1⟩) ?_ ?_
     ·apply aq;simp[hC];apply T.block;refine T.aH (λ m s=>∃ k:Nat,m=al.length-k/\k<=al.length/\s=⟨[(12,I k),(7,I 3),(6,.aw 0 0),(5,I i),(0,.ax (bO l) l.length),(1,I deep)],[(0,⟨207,0,[I 3,.str nm,I 0,I 0,.str ⟨#[]⟩,.ax [] 0,.str ⟨#[]⟩,.ax [] 0,.ax (al.flatMap qc) al.length,.ax [] 0,.ax [] 0]⟩)],1⟩) (n:=al.length) ?_ ?_
      ·refine aa.trim [12,7,6,5,0,1] [0] 1 xr yA ⟨0,by omega,by omega,?_⟩;simp
      ·rintro m s ⟨k,rfl,hk,rfl⟩;by_cases R8:k<al.length
       ·obtain⟨a,hka⟩:∃ a,al[k]? = some a:=⟨al[k],getElem?_eq_getElem R8⟩;have Tu:=Y0 k a hka;have Ty:=Zx k a hka;have wk:=cF ((k:Int)+1) yA yA;apply aW;simp[hC,R8];refine gw ?_;simp;apply eN
        cases a with
        | xf r=>
         have Sg:=xb r Ty;obtain⟨rn,ri⟩:=r;obtain⟨q1,q2,hq⟩:∃ cs n,oc ri=.ax cs n:=by cases ri<;>exact⟨_,_,rfl⟩
         simp only[lN,hq] at Sg;simp only[qc,bf,lN,hq,cons_append,nil_append] at Tu;apply aq;simp[hC,R8,Tu];apply aq;simp[hC];refine TL.cM RT rfl rfl rfl rfl (bU.of rfl R2 (Sg)) (TL.go' ah ?_);simp[hC];refine TL.cM RT rfl rfl rfl rfl (bU.of rfl R2 (SX)) (TL.go' ah ?_);simp[hC];refine a9 ?_;simp;apply T.skip;simp;apply aN;simp[hC,wk];refine⟨al.length-(k+1),by omega,?_⟩;refine aa.trim [12,7,6,5,0,1] [0] 1 xr yA ⟨k+1,rfl,by omega,?_⟩;simp
        | exp e=>
         simp only[okA,bW e] at Ty;simp only[qc,bW e,lP,cons_append,nil_append] at Tu;apply aq;simp[hC,R8,Tu];apply aq;simp[hC];refine TL.cM RT rfl rfl rfl rfl (bU.of rfl R2 (iD)) (TL.go' ah ?_);simp[hC];refine TL.cM RT rfl rfl rfl rfl (bU.of rfl R2 (Ty)) (TL.go' ah ?_);simp[hC];refine a9 ?_;simp;apply T.skip;simp;apply aN;simp[hC,wk];refine⟨al.length-(k+1),by omega,?_⟩;refine aa.trim [12,7,6,5,0,1] [0] 1 xr yA ⟨k+1,rfl,by omega,?_⟩;simp
       ·apply aW;simp[hC,R8];refine a9 ?_;simp;apply T.exit;simp;refine aa.trim [7,6,5,0,1] [0] 1 xr yA ?_;simp
     rintro s rfl;apply aq;simp[hC];apply aq;simp[hC];refine a9 ?_;simp;apply T.skip;simp;apply aN;simp[hC,wi];refine⟨l.length-(i+1),by omega,?_⟩;refine aa.trim [5,0,1] [] 0 xr yA ⟨i+1,rfl,by omega,?_⟩;simp
    | true=>
     have e5:(if true=true then (4:Int) else 3)=4:=rfl;rw[e5] at Qd;apply aq;simp[hC,Og,Qd];apply aq;simp[hC];apply aq;simp[hC];apply aq;simp[hC];apply aq;simp[hC];refine T.le (Le.trim [11,10,9,8,7,6,5,0,1] [0] 1 xr yA) ?_;simp;apply aW;simp[hC,eS];refine TL.cM RT rfl rfl rfl rfl (bU.of rfl R2 (hn)) (TL.go' ah ?_);simp[hC];refine TL.cM RT rfl rfl rfl rfl (bU.of rfl R2 (SX)) (TL.go' ah ?_);simp[hC];refine TL.cM RT rfl rfl rfl rfl (bU.of rfl R2 (iD)) (TL.go' ah ?_);simp[hC];refine a9 ?_;simp;apply T.skip;simp;refine T.cut (λ s=>s=⟨[(7,I 4),(6,.aw 0 0),(5,I i),(0,.ax (bO l) l.length),(1,I deep)],[(0,⟨207,0,[I 4,.str nm,I 0,I 0,.str ⟨#[]⟩,.ax [] 0,.str ⟨#[]⟩,.ax [] 0,.ax (al.flatMap qc) al.length,.ax [] 0,.ax [] 0]⟩)],1⟩) ?_ ?_
     ·apply aq;simp[hC];apply T.block;refine T.aH (λ m s=>∃ k:Nat,m=al.length-k/\k<=al.length/\s=⟨[(12,I k),(7,I 4),(6,.aw 0 0),(5,I i),(0,.ax (bO l) l.length),(1,I deep)],[(0,⟨207,0,[I 4,.str nm,I 0,I 0,.str ⟨#[]⟩,.ax [] 0,.str ⟨#[]⟩,.ax [] 0,.ax (al.flatMap qc) al.length,.ax [] 0,.ax [] 0]⟩)],1⟩) (n:=al.length) ?_ ?_
      ·refine aa.trim [12,7,6,5,0,1] [0] 1 xr yA ⟨0,by omega,by omega,?_⟩;simp
      ·rintro m s ⟨k,rfl,hk,rfl⟩;by_cases R8:k<al.length
       ·obtain⟨a,hka⟩:∃ a,al[k]? = some a:=⟨al[k],getElem?_eq_getElem R8⟩;have Tu:=Y0 k a hka;have Ty:=Zx k a hka;have wk:=cF ((k:Int)+1) yA yA;apply aW;simp[hC,R8];refine gw ?_;simp;apply eN
        cases a with
        | xf r=>
         have Sg:=xb r Ty;obtain⟨rn,ri⟩:=r;obtain⟨q1,q2,hq⟩:∃ cs n,oc ri=.ax cs n:=by cases ri<;>exact⟨_,_,rfl⟩
         simp only[lN,hq] at Sg;simp only[qc,bf,lN,hq,cons_append,nil_append] at Tu;apply aq;simp[hC,R8,Tu];apply aq;simp[hC];refine TL.cM RT rfl rfl rfl rfl (bU.of rfl R2 (Sg)) (TL.go' ah ?_);simp[hC];refine TL.cM RT rfl rfl rfl rfl (bU.of rfl R2 (SX)) (TL.go' ah ?_);simp[hC];refine a9 ?_;simp;apply T.skip;simp;apply aN;simp[hC,wk];refine⟨al.length-(k+1),by omega,?_⟩;refine aa.trim [12,7,6,5,0,1] [0] 1 xr yA ⟨k+1,rfl,by omega,?_⟩;simp
        | exp e=>
         simp only[okA,bW e] at Ty;simp only[qc,bW e,lP,cons_append,nil_append] at Tu;apply aq;simp[hC,R8,Tu];apply aq;simp[hC];refine TL.cM RT rfl rfl rfl rfl (bU.of rfl R2 (iD)) (TL.go' ah ?_);simp[hC];refine TL.cM RT rfl rfl rfl rfl (bU.of rfl R2 (Ty)) (TL.go' ah ?_);simp[hC];refine a9 ?_;simp;apply T.skip;simp;apply aN;simp[hC,wk];refine⟨al.length-(k+1),by omega,?_⟩;refine aa.trim [12,7,6,5,0,1] [0] 1 xr yA ⟨k+1,rfl,by omega,?_⟩;simp
       ·apply aW;simp[hC,R8];refine a9 ?_;simp;apply T.exit;simp;refine aa.trim [7,6,5,0,1] [0] 1 xr yA ?_;simp
     rintro s rfl;apply aq;simp[hC];apply aq;simp[hC];refine a9 ?_;simp;apply T.skip;simp;apply aN;simp[hC,wi];refine⟨l.length-(i+1),by omega,?_⟩;refine aa.trim [5,0,1] [] 0 xr yA ⟨i+1,rfl,by omega,?_⟩;simp
  ·apply aW;simp[hC,Og];refine a9 ?_;simp;apply T.exit;simp;apply aq;simp[hC];apply T.ret;apply aa.here;simp[Tryz.results127]
end Go.Proofs.YtlkmbdfhdknlgaaGreat
