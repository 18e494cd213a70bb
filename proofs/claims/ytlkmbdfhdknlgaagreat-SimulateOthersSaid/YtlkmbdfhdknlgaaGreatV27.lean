/- noExpr, noRef, okRef, okSt -/
import Derived.Test.YtlkmbdfhdknlgaaGreatV26
namespace Go.Proofs.YtlkmbdfhdknlgaaGreat
open Go.Can Go.aV List Tryz
theorem sh:af prog 161 [.agg (a8 .zero)] (.bool true):=by
 refine af.aC ag Tryz.func161 rfl GK (by simp[Tryz.ntmps161]) rfl λ C hC OR=>?_;rw[Tryz.ntmps161] at hC;apply aq;simp[hC,a8,eS];apply aq;simp[hC,iV];apply T.ret;apply aa.here;simp[Tryz.results161]
theorem ik:af prog 163 [.agg lh] (.bool true):=by
 refine af.aC ag Tryz.func163 rfl GK (by simp[Tryz.ntmps163]) rfl λ C hC OR=>?_;rw[Tryz.ntmps163] at hC;apply aq;simp[hC,lh,eS];apply aq;simp[hC,iV];apply T.ret;apply aa.here;simp[Tryz.results163]
def RfR (r:Rf):Prop:=ni r.name/\∀ e,r.index=some e->af prog 160 [.agg (a8 e)] (.bool true)
theorem vq (r:Rf)(h:RfR r):af prog 162 [.agg (ld r)] (.bool true):=by
 obtain⟨nm,ix⟩:=r;obtain⟨h1,h2⟩:=h;have hn:=jQ nm h1.1 h1.2;refine af.aC ag Tryz.func162 rfl GK (by simp[Tryz.ntmps162]) rfl λ C hC OR=>?_;rw[Tryz.ntmps162] at hC
 cases ix with
 | none=>
  apply aq;simp[hC,ld,mA];apply aq;simp[hC];refine ct O4 (hn) ?_;simp[hC];apply T.ret;apply aa.here;simp[Tryz.results162]
 | some e=>
  have hv:=h2 e rfl;apply aq;simp[hC,ld,mA];apply aq;simp[hC];refine ct O4 (hn) ?_;simp[hC];refine TL.cU OU rfl rfl rfl rfl (bR.of rfl WJ (hv)) (TL.go' ag ?_);simp[hC];apply T.ret;apply aa.here;simp[Tryz.results162]
def okA (a:Ar):Prop:=match a with
 | .vw r=>RfR r
 | .exp e=>af prog 160 [.agg (a8 e)] (.bool true)
def J90 (l:List Sm)(deep:Nat)(n:Nat)(s:St):Prop:=∃ i:Nat,n=l.length-i/\i<=l.length/\s=⟨[(5,I i),(0,.au (bS l) l.length),(1,I deep)],[],0⟩
set_option maxHeartbeats 8000000 in
theorem y0 (l:List Sm)(deep:Nat)(hd:deep<20)(hl:l.length<=100000)
  (h:∀ s∈l,(match s with
   | .ia nm e=>ni nm/\af prog 160 [.agg (a8 e)] (.bool true)
   | .iX nm e=>ni nm/\af prog 160 [.agg (a8 e)] (.bool true)
   | .en _ nm al=>ni nm/\al.length<=1000/\∀ a∈al,okA a
   | .dP _ r=>RfR r
   | .lO e th el=>af prog 160 [.agg (a8 e)] (.bool true)/\af prog 127 [.au (bS th) th.length,I ((deep+1:Nat))] (.bool true)/\af prog 127 [.au (bS el) el.length,I ((deep+1:Nat))] (.bool true)
   | .dh e th=>af prog 160 [.agg (a8 e)] (.bool true)/\af prog 127 [.au (bS th) th.length,I ((deep+1:Nat))] (.bool true)
   | .jJ=>True)):af prog 127 [.au (bS l) l.length,I deep] (.bool true):=by
 have Qv:=λ (i:Nat) (x:Sm) (h:l[i]? = some x)=>aH (f:=iD) (n:=11) kN (m:=l) h;rw[<- oO] at Qv;have hd24:¬ (24:Int)<=deep:=by omega
 have wd:=cw ((deep:Int)+1) yA yA;refine af.aC ag Tryz.func127 rfl GK (by simp[Tryz.ntmps127]) rfl λ C hC OR=>?_;rw[Tryz.ntmps127] at hC;apply aq;simp[hC];apply aT;simp[hC,hd24];refine bh ?_;simp;apply T.skip;simp;apply aT;simp[hC];apply T.block;refine T.aQ (J90 l deep) (n:=l.length) ?_ ?_
 ·refine aa.le (Le.env [5,0,1]) (aa.here ⟨0,by omega,by omega,?_⟩);simp
 ·rintro n s ⟨i,rfl,hi,rfl⟩;by_cases OP:i<l.length
  ·obtain⟨x,hx⟩:∃ x,l[i]? = some x:=⟨l[i],getElem?_eq_getElem OP⟩;have OS:=Qv i x hx;have hh:=h x (mem_of_getElem? hx);have wi:=cw ((i:Int)+1) yA yA;apply aT;simp[hC,OP];refine iI ?_;simp;apply eZ
   cases x with
   | ia nm e=>
    obtain⟨h1,h2⟩:=hh;have hn:=jQ nm h1.1 h1.2;simp only[iD,bV e,lh,cons_append,nil_append] at OS;rw[bV e] at h2;apply aq;simp[hC,OP,OS];apply aq;simp[hC];apply aq;simp[hC];apply aq;simp[hC];apply aq;simp[hC];refine T.le (Le.trim [11,10,9,8,7,6,5,0,1] [0] 1 xr yA) ?_;simp;apply aT;simp[hC];refine TL.cU OU rfl rfl rfl rfl (bR.of rfl O4 (hn)) (TL.go' ag ?_);simp[hC];refine TL.cU OU rfl rfl rfl rfl (bR.of rfl O4 (h2)) (TL.go' ag ?_);simp[hC];refine TL.cU OU rfl rfl rfl rfl (bR.of rfl O4 (ik)) (TL.go' ag ?_);simp[hC];refine bh ?_;simp;apply T.skip;simp;refine T.cut (λ s=>s=⟨[(7,I 1),(6,.ax 0 0),(5,I i),(0,.au (bS l) l.length),(1,I deep)],[(0,⟨207,0,[I 1,.str nm,I e.op,I e.n,.str e.name,.au (e.args.flatMap a8) e.args.length,.str eS,.au [] 0,.au [] 0,.au [] 0,.au [] 0]⟩)],1⟩) ?_ ?_
    ·apply aq;simp[hC];apply T.block;refine T.aQ (λ m s=>s=⟨[(12,.int .i64 0),(7,I 1),(6,.ax 0 0),(5,I i),(0,.au (bS l) l.length),(1,I deep)],[(0,⟨207,0,[I 1,.str nm,I e.op,I e.n,.str e.name,.au (e.args.flatMap a8) e.args.length,.str eS,.au [] 0,.au [] 0,.au [] 0,.au [] 0]⟩)],1⟩) (n:=0) ?_ ?_
     ·refine aa.trim [12,7,6,5,0,1] [0] 1 xr yA ?_;simp
     ·rintro m s rfl;apply aT;simp[hC];refine bh ?_;simp;apply T.exit;simp;refine aa.trim [7,6,5,0,1] [0] 1 xr yA ?_;simp
    rintro s rfl;apply aq;simp[hC];apply aq;simp[hC];refine bh ?_;simp;apply T.skip;simp;apply aG;simp[hC,wi];refine⟨l.length-(i+1),by omega,?_⟩;refine aa.trim [5,0,1] [] 0 xr yA ⟨i+1,rfl,by omega,?_⟩;simp
   | iX nm e=>
    obtain⟨h1,h2⟩:=hh;have hn:=jQ nm h1.1 h1.2;simp only[iD,bV e,lh,cons_append,nil_append] at OS;rw[bV e] at h2;apply aq;simp[hC,OP,OS];apply aq;simp[hC];apply aq;simp[hC];apply aq;simp[hC];apply aq;simp[hC];refine T.le (Le.trim [11,10,9,8,7,6,5,0,1] [0] 1 xr yA) ?_;simp;apply aT;simp[hC];refine TL.cU OU rfl rfl rfl rfl (bR.of rfl O4 (hn)) (TL.go' ag ?_);simp[hC];refine TL.cU OU rfl rfl rfl rfl (bR.of rfl O4 (h2)) (TL.go' ag ?_);simp[hC];refine TL.cU OU rfl rfl rfl rfl (bR.of rfl O4 (ik)) (TL.go' ag ?_);simp[hC];refine bh ?_;simp;apply T.skip;simp;refine T.cut (λ s=>s=⟨[(7,I 2),(6,.ax 0 0),(5,I i),(0,.au (bS l) l.length),(1,I deep)],[(0,⟨207,0,[I 2,.str nm,I e.op,I e.n,.str e.name,.au (e.args.flatMap a8) e.args.length,.str eS,.au [] 0,.au [] 0,.au [] 0,.au [] 0]⟩)],1⟩) ?_ ?_
    ·apply aq;simp[hC];apply T.block;refine T.aQ (λ m s=>s=⟨[(12,.int .i64 0),(7,I 2),(6,.ax 0 0),(5,I i),(0,.au (bS l) l.length),(1,I deep)],[(0,⟨207,0,[I 2,.str nm,I e.op,I e.n,.str e.name,.au (e.args.flatMap a8) e.args.length,.str eS,.au [] 0,.au [] 0,.au [] 0,.au [] 0]⟩)],1⟩) (n:=0) ?_ ?_
     ·refine aa.trim [12,7,6,5,0,1] [0] 1 xr yA ?_;simp
     ·rintro m s rfl;apply aT;simp[hC];refine bh ?_;simp;apply T.exit;simp;refine aa.trim [7,6,5,0,1] [0] 1 xr yA ?_;simp
    rintro s rfl;apply aq;simp[hC];apply aq;simp[hC];refine bh ?_;simp;apply T.skip;simp;apply aG;simp[hC,wi];refine⟨l.length-(i+1),by omega,?_⟩;refine aa.trim [5,0,1] [] 0 xr yA ⟨i+1,rfl,by omega,?_⟩;simp
   | jJ=>
    have Qc:=sh;simp only[iD,a8,lh,cons_append,nil_append] at OS Qc;apply aq;simp[hC,OP,OS];apply aq;simp[hC];apply aq;simp[hC];apply aq;simp[hC];apply aq;simp[hC];refine T.le (Le.trim [11,10,9,8,7,6,5,0,1] [0] 1 xr yA) ?_;simp;apply aT;simp[hC,j4,eS];refine TL.cU OU rfl rfl rfl rfl (bR.of rfl O4 (Qc)) (TL.go' ag ?_);simp[hC];refine TL.cU OU rfl rfl rfl rfl (bR.of rfl O4 (ik)) (TL.go' ag ?_);simp[hC];refine bh ?_;simp;apply T.skip;simp;refine T.cut (λ s=>s=⟨[(7,I 9),(6,.ax 0 0),(5,I i),(0,.au (bS l) l.length),(1,I deep)],[(0,⟨207,0,[I 9,.str ⟨#[]⟩,I 0,I 0,.str ⟨#[]⟩,.au [] 0,.str ⟨#[]⟩,.au [] 0,.au [] 0,.au [] 0,.au [] 0]⟩)],1⟩) ?_ ?_
    ·apply aq;simp[hC];apply T.block;refine T.aQ (λ m s=>s=⟨[(12,.int .i64 0),(7,I 9),(6,.ax 0 0),(5,I i),(0,.au (bS l) l.length),(1,I deep)],[(0,⟨207,0,[I 9,.str ⟨#[]⟩,I 0,I 0,.str ⟨#[]⟩,.au [] 0,.str ⟨#[]⟩,.au [] 0,.au [] 0,.au [] 0,.au [] 0]⟩)],1⟩) (n:=0) ?_ ?_
     ·refine aa.trim [12,7,6,5,0,1] [0] 1 xr yA ?_;simp
     ·rintro m s rfl;apply aT;simp[hC];refine bh ?_;simp;apply T.exit;simp;refine aa.trim [7,6,5,0,1] [0] 1 xr yA ?_;simp
    rintro s rfl;apply aq;simp[hC];apply aq;simp[hC];refine bh ?_;simp;apply T.skip;simp;apply aG;simp[hC,wi];refine⟨l.length-(i+1),by omega,?_⟩;refine aa.trim [5,0,1] [] 0 xr yA ⟨i+1,rfl,by omega,?_⟩;simp
   | dP u r=>
    have Qc:=sh;have O8:=vq r hh;obtain⟨rn,ri⟩:=r;obtain⟨q1,q2,hq⟩:∃ cs n,mA ri=.au cs n:=by cases ri<;>exact⟨_,_,rfl⟩
    simp only[ld,hq] at O8;simp only[iD,a8,ld,hq,cons_append,nil_append] at OS Qc
    cases u with
    | false=>
     have e5:(if false=true then (6:Int) else 5)=5:=rfl;rw[e5] at OS;apply aq;simp[hC,OP,OS];apply aq;simp[hC];apply aq;simp[hC];apply aq;simp[hC];apply aq;simp[hC];refine T.le (Le.trim [11,10,9,8,7,6,5,0,1] [0] 1 xr yA) ?_;simp;apply aT;simp[hC,j4,eS];refine TL.cU OU rfl rfl rfl rfl (bR.of rfl O4 (Qc)) (TL.go' ag ?_);simp[hC];refine TL.cU OU rfl rfl rfl rfl (bR.of rfl O4 (O8)) (TL.go' ag ?_);simp[hC];refine bh ?_;simp;apply T.skip;simp;refine T.cut (λ s=>s=⟨[(7,I 5),(6,.ax 0 0),(5,I i),(0,.au (bS l) l.length),(1,I deep)],[(0,⟨207,0,[I 5,.str ⟨#[]⟩,I 0,I 0,.str ⟨#[]⟩,.au [] 0,.str rn,.au q1 q2,.au [] 0,.au [] 0,.au [] 0]⟩)],1⟩) ?_ ?_
     ·apply aq;simp[hC];apply T.block;refine T.aQ (λ m s=>s=⟨[(12,.int .i64 0),(7,I 5),(6,.ax 0 0),(5,I i),(0,.au (bS l) l.length),(1,I deep)],[(0,⟨207,0,[I 5,.str ⟨#[]⟩,I 0,I 0,.str ⟨#[]⟩,.au [] 0,.str rn,.au q1 q2,.au [] 0,.au [] 0,.au [] 0]⟩)],1⟩) (n:=0) ?_ ?_
      ·refine aa.trim [12,7,6,5,0,1] [0] 1 xr yA ?_;simp
      ·rintro m s rfl;apply aT;simp[hC];refine bh ?_;simp;apply T.exit;simp;refine aa.trim [7,6,5,0,1] [0] 1 xr yA ?_;simp
     rintro s rfl;apply aq;simp[hC];apply aq;simp[hC];refine bh ?_;simp;apply T.skip;simp;apply aG;simp[hC,wi];refine⟨l.length-(i+1),by omega,?_⟩;refine aa.trim [5,0,1] [] 0 xr yA ⟨i+1,rfl,by omega,?_⟩;simp
    | true=>
     have e5:(if true=true then (6:Int) else 5)=6:=rfl;rw[e5] at OS;apply aq;simp[hC,OP,OS];apply aq;simp[hC];apply aq;simp[hC];apply aq;simp[hC];apply aq;simp[hC];refine T.le (Le.trim [11,10,9,8,7,6,5,0,1] [0] 1 xr yA) ?_;simp;apply aT;simp[hC,j4,eS];refine TL.cU OU rfl rfl rfl rfl (bR.of rfl O4 (Qc)) (TL.go' ag ?_);simp[hC];refine TL.cU OU rfl rfl rfl rfl (bR.of rfl O4 (O8)) (TL.go' ag ?_);simp[hC];refine bh ?_;simp;apply T.skip;simp;refine T.cut (λ s=>s=⟨[(7,I 6),(6,.ax 0 0),(5,I i),(0,.au (bS l) l.length),(1,I deep)],[(0,⟨207,0,[I 6,.str ⟨#[]⟩,I 0,I 0,.str ⟨#[]⟩,.au [] 0,.str rn,.au q1 q2,.au [] 0,.au [] 0,.au [] 0]⟩)],1⟩) ?_ ?_
     ·apply aq;simp[hC];apply T.block;refine T.aQ (λ m s=>s=⟨[(12,.int .i64 0),(7,I 6),(6,.ax 0 0),(5,I i),(0,.au (bS l) l.length),(1,I deep)],[(0,⟨207,0,[I 6,.str ⟨#[]⟩,I 0,I 0,.str ⟨#[]⟩,.au [] 0,.str rn,.au q1 q2,.au [] 0,.au [] 0,.au [] 0]⟩)],1⟩) (n:=0) ?_ ?_
      ·refine aa.trim [12,7,6,5,0,1] [0] 1 xr yA ?_;simp
      ·rintro m s rfl;apply aT;simp[hC];refine bh ?_;simp;apply T.exit;simp;refine aa.trim [7,6,5,0,1] [0] 1 xr yA ?_;simp
     rintro s rfl;apply aq;simp[hC];apply aq;simp[hC];refine bh ?_;simp;apply T.skip;simp;apply aG;simp[hC,wi];refine⟨l.length-(i+1),by omega,?_⟩;refine aa.trim [5,0,1] [] 0 xr yA ⟨i+1,rfl,by omega,?_⟩;simp
   | lO e th el=>
    obtain⟨h2,h3,h4⟩:=hh;simp only[iD,bV e,lh,cons_append,nil_append] at OS;rw[bV e] at h2;have c1:(((deep+1:Nat)):Int)=deep+1:=by omega
    rw[c1] at h3 h4;apply aq;simp[hC,OP,OS];apply aq;simp[hC];apply aq;simp[hC];apply aq;simp[hC];apply aq;simp[hC];refine T.le (Le.trim [11,10,9,8,7,6,5,0,1] [0] 1 xr yA) ?_;simp;apply aT;simp[hC,j4,eS];refine TL.cU OU rfl rfl rfl rfl (bR.of rfl O4 (h2)) (TL.go' ag ?_);simp[hC];refine TL.cU OU rfl rfl rfl rfl (bR.of rfl O4 (ik)) (TL.go' ag ?_);simp[hC];refine bh ?_;simp;apply T.skip;simp;refine T.cut (λ s=>s=⟨[(7,I 7),(6,.ax 0 0),(5,I i),(0,.au (bS l) l.length),(1,I deep)],[(0,⟨207,0,[I 7,.str ⟨#[]⟩,I e.op,I e.n,.str e.name,.au (e.args.flatMap a8) e.args.length,.str ⟨#[]⟩,.au [] 0,.au [] 0,.au (bS th) th.length,.au (bS el) el.length]⟩)],1⟩) ?_ ?_
    ·apply aq;simp[hC];apply T.block;refine T.aQ (λ m s=>s=⟨[(12,.int .i64 0),(7,I 7),(6,.ax 0 0),(5,I i),(0,.au (bS l) l.length),(1,I deep)],[(0,⟨207,0,[I 7,.str ⟨#[]⟩,I e.op,I e.n,.str e.name,.au (e.args.flatMap a8) e.args.length,.str ⟨#[]⟩,.au [] 0,.au [] 0,.au (bS th) th.length,.au (bS el) el.length]⟩)],1⟩) (n:=0) ?_ ?_
     ·refine aa.trim [12,7,6,5,0,1] [0] 1 xr yA ?_;simp
     ·rintro m s rfl;apply aT;simp[hC];refine bh ?_;simp;apply T.exit;simp;refine aa.trim [7,6,5,0,1] [0] 1 xr yA ?_;simp
    rintro s rfl;apply aq;simp[hC];by_cases O7:0<el.length
    ·apply aq;simp[hC,wd];refine TL.cU OU rfl rfl rfl rfl (bR.of rfl O4 (h3)) (TL.go' ag ?_);simp[hC,O7,wd];refine TL.cU OU rfl rfl rfl rfl (bR.of rfl O4 (h4)) (TL.go' ag ?_);simp[hC];refine bh ?_;simp;apply T.skip;simp;apply aG;simp[hC,wi];refine⟨l.length-(i+1),by omega,?_⟩;refine aa.trim [5,0,1] [] 0 xr yA ⟨i+1,rfl,by omega,?_⟩;simp
    ·apply aq;simp[hC,wd];refine TL.cU OU rfl rfl rfl rfl (bR.of rfl O4 (h3)) (TL.go' ag ?_);simp[hC,O7];refine bh ?_;simp;apply T.skip;simp;apply aG;simp[hC,wi];refine⟨l.length-(i+1),by omega,?_⟩;refine aa.trim [5,0,1] [] 0 xr yA ⟨i+1,rfl,by omega,?_⟩;simp
   | dh e th=>
    obtain⟨h2,h3⟩:=hh;simp only[iD,bV e,lh,cons_append,nil_append] at OS;rw[bV e] at h2;have c1:(((deep+1:Nat)):Int)=deep+1:=by omega
    rw[c1] at h3;apply aq;simp[hC,OP,OS];apply aq;simp[hC];apply aq;simp[hC];apply aq;simp[hC];apply aq;simp[hC];refine T.le (Le.trim [11,10,9,8,7,6,5,0,1] [0] 1 xr yA) ?_;simp;apply aT;simp[hC,j4,eS];refine TL.cU OU rfl rfl rfl rfl (bR.of rfl O4 (h2)) (TL.go' ag ?_);simp[hC];refine TL.cU OU rfl rfl rfl rfl (bR.of rfl O4 (ik)) (TL.go' ag ?_);simp[hC];refine bh ?_;simp;apply T.skip;simp;refine T.cut (λ s=>s=⟨[(7,I 8),(6,.ax 0 0),(5,I i),(0,.au (bS l) l.length),(1,I deep)],[(0,⟨207,0,[I 8,.str ⟨#[]⟩,I e.op,I e.n,.str e.name,.au (e.args.flatMap a8) e.args.length,.str ⟨#[]⟩,.au [] 0,.au [] 0,.au (bS th) th.length,.au [] 0]⟩)],1⟩) ?_ ?_
    ·apply aq;simp[hC];apply T.block;refine T.aQ (λ m s=>s=⟨[(12,.int .i64 0),(7,I 8),(6,.ax 0 0),(5,I i),(0,.au (bS l) l.length),(1,I deep)],[(0,⟨207,0,[I 8,.str ⟨#[]⟩,I e.op,I e.n,.str e.name,.au (e.args.flatMap a8) e.args.length,.str ⟨#[]⟩,.au [] 0,.au [] 0,.au (bS th) th.length,.au [] 0]⟩)],1⟩) (n:=0) ?_ ?_
     ·refine aa.trim [12,7,6,5,0,1] [0] 1 xr yA ?_;simp
     ·rintro m s rfl;apply aT;simp[hC];refine bh ?_;simp;apply T.exit;simp;refine aa.trim [7,6,5,0,1] [0] 1 xr yA ?_;simp
    rintro s rfl;apply aq;simp[hC];apply aq;simp[hC,wd];refine TL.cU OU rfl rfl rfl rfl (bR.of rfl O4 (h3)) (TL.go' ag ?_);simp[hC];refine bh ?_;simp;apply T.skip;simp;apply aG;simp[hC,wi];refine⟨l.length-(i+1),by omega,?_⟩;refine aa.trim [5,0,1] [] 0 xr yA ⟨i+1,rfl,by omega,?_⟩;simp
   | en g nm al=>
    obtain⟨h1,h2,h3⟩:=hh;have hn:=jQ nm h1.1 h1.2;have Qc:=sh;simp only[iD,a8,lh,cons_append,nil_append] at OS Qc;have V9:=λ (k:Nat) (a:Ar) (h:al[k]? = some a)=>aH (f:=pw) (n:=7) uL (m:=al) h;have WB:=λ (k:Nat) (a:Ar) (h:al[k]? = some a)=>h3 a (mem_of_getElem? h);clear h3
    cases g with
    | false=>
     have e5:(if false=true then (4:Int) else 3)=3:=rfl;rw[e5] at OS;apply aq;simp[hC,OP,OS];apply aq;simp[hC];apply aq;simp[hC];apply aq;simp[hC];apply aq;simp[hC];refine T.le (Le.trim [11,10,9,8,7,6,5,0,1] [0] 1 xr yA) ?_;simp;apply aT;simp[hC,eS];refine TL.cU OU rfl rfl rfl rfl (bR.of rfl O4 (hn)) (TL.go' ag ?_);simp[hC];refine TL.cU OU rfl rfl rfl rfl (bR.of rfl O4 (Qc)) (TL.go' ag ?_);simp[hC];refine TL.cU OU rfl rfl rfl rfl (bR.of rfl O4 (ik)) (TL.go' ag ?_);simp[hC];refine bh ?_;simp;apply T.skip;simp;refine T.cut (λ s=>s=⟨[(7,I 3),(6,.ax 0 0),(5,I i),(0,.au (bS l) l.length),(1,I deep)],[(0,⟨207,0,[I 3,.str nm,I 0,I 0,.str ⟨#[]⟩,.au [] 0,.str ⟨#[]⟩,.au [] 0,.au (al.flatMap pw) al.length,.au [] 0,.au [] 0]⟩)],1⟩) ?_ ?_
     ·apply aq;simp[hC];apply T.block;refine T.aQ (λ m s=>∃ k:Nat,m=al.length-k/\k<=al.length/\s=⟨[(12,I k),(7,I 3),(6,.ax 0 0),(5,I i),(0,.au (bS l) l.length),(1,I deep)],[(0,⟨207,0,[I 3,.str nm,I 0,I 0,.str ⟨#[]⟩,.au [] 0,.str ⟨#[]⟩,.au [] 0,.au (al.flatMap pw) al.length,.au [] 0,.au [] 0]⟩)],1⟩) (n:=al.length) ?_ ?_
      ·refine aa.trim [12,7,6,5,0,1] [0] 1 xr yA ⟨0,by omega,by omega,?_⟩;simp
      ·rintro m s ⟨k,rfl,hk,rfl⟩;by_cases Pa:k<al.length
       ·obtain⟨a,Zs⟩:∃ a,al[k]? = some a:=⟨al[k],getElem?_eq_getElem Pa⟩;have QB:=V9 k a Zs;have QG:=WB k a Zs;have wk:=cw ((k:Int)+1) yA yA;apply aT;simp[hC,Pa];refine iI ?_;simp;apply eZ
        cases a with
        | vw r=>
         have O8:=vq r QG;obtain⟨rn,ri⟩:=r;obtain⟨q1,q2,hq⟩:∃ cs n,mA ri=.au cs n:=by cases ri<;>exact⟨_,_,rfl⟩
         simp only[ld,hq] at O8;simp only[pw,a8,ld,hq,cons_append,nil_append] at QB;apply aq;simp[hC,Pa,QB];apply aq;simp[hC];refine TL.cU OU rfl rfl rfl rfl (bR.of rfl O4 (O8)) (TL.go' ag ?_);simp[hC];refine TL.cU OU rfl rfl rfl rfl (bR.of rfl O4 (Qc)) (TL.go' ag ?_);simp[hC];refine bh ?_;simp;apply T.skip;simp;apply aG;simp[hC,wk];refine⟨al.length-(k+1),by omega,?_⟩;refine aa.trim [12,7,6,5,0,1] [0] 1 xr yA ⟨k+1,rfl,by omega,?_⟩;simp
        | exp e=>
         simp only[okA,bV e] at QG;simp only[pw,bV e,lh,cons_append,nil_append] at QB;apply aq;simp[hC,Pa,QB];apply aq;simp[hC];refine TL.cU OU rfl rfl rfl rfl (bR.of rfl O4 (ik)) (TL.go' ag ?_);simp[hC];refine TL.cU OU rfl rfl rfl rfl (bR.of rfl O4 (QG)) (TL.go' ag ?_);simp[hC];refine bh ?_;simp;apply T.skip;simp;apply aG;simp[hC,wk];refine⟨al.length-(k+1),by omega,?_⟩;refine aa.trim [12,7,6,5,0,1] [0] 1 xr yA ⟨k+1,rfl,by omega,?_⟩;simp
       ·apply aT;simp[hC,Pa];refine bh ?_;simp;apply T.exit;simp;refine aa.trim [7,6,5,0,1] [0] 1 xr yA ?_;simp
     rintro s rfl;apply aq;simp[hC];apply aq;simp[hC];refine bh ?_;simp;apply T.skip;simp;apply aG;simp[hC,wi];refine⟨l.length-(i+1),by omega,?_⟩;refine aa.trim [5,0,1] [] 0 xr yA ⟨i+1,rfl,by omega,?_⟩;simp
    | true=>
     have e5:(if true=true then (4:Int) else 3)=4:=rfl;rw[e5] at OS;apply aq;simp[hC,OP,OS];apply aq;simp[hC];apply aq;simp[hC];apply aq;simp[hC];apply aq;simp[hC];refine T.le (Le.trim [11,10,9,8,7,6,5,0,1] [0] 1 xr yA) ?_;simp;apply aT;simp[hC,eS];refine TL.cU OU rfl rfl rfl rfl (bR.of rfl O4 (hn)) (TL.go' ag ?_);simp[hC];refine TL.cU OU rfl rfl rfl rfl (bR.of rfl O4 (Qc)) (TL.go' ag ?_);simp[hC];refine TL.cU OU rfl rfl rfl rfl (bR.of rfl O4 (ik)) (TL.go' ag ?_);simp[hC];refine bh ?_;simp;apply T.skip;simp;refine T.cut (λ s=>s=⟨[(7,I 4),(6,.ax 0 0),(5,I i),(0,.au (bS l) l.length),(1,I deep)],[(0,⟨207,0,[I 4,.str nm,I 0,I 0,.str ⟨#[]⟩,.au [] 0,.str ⟨#[]⟩,.au [] 0,.au (al.flatMap pw) al.length,.au [] 0,.au [] 0]⟩)],1⟩) ?_ ?_
     ·apply aq;simp[hC];apply T.block;refine T.aQ (λ m s=>∃ k:Nat,m=al.length-k/\k<=al.length/\s=⟨[(12,I k),(7,I 4),(6,.ax 0 0),(5,I i),(0,.au (bS l) l.length),(1,I deep)],[(0,⟨207,0,[I 4,.str nm,I 0,I 0,.str ⟨#[]⟩,.au [] 0,.str ⟨#[]⟩,.au [] 0,.au (al.flatMap pw) al.length,.au [] 0,.au [] 0]⟩)],1⟩) (n:=al.length) ?_ ?_
      ·refine aa.trim [12,7,6,5,0,1] [0] 1 xr yA ⟨0,by omega,by omega,?_⟩;simp
      ·rintro m s ⟨k,rfl,hk,rfl⟩;by_cases Pa:k<al.length
       ·obtain⟨a,Zs⟩:∃ a,al[k]? = some a:=⟨al[k],getElem?_eq_getElem Pa⟩;have QB:=V9 k a Zs;have QG:=WB k a Zs;have wk:=cw ((k:Int)+1) yA yA;apply aT;simp[hC,Pa];refine iI ?_;simp;apply eZ
        cases a with
        | vw r=>
         have O8:=vq r QG;obtain⟨rn,ri⟩:=r;obtain⟨q1,q2,hq⟩:∃ cs n,mA ri=.au cs n:=by cases ri<;>exact⟨_,_,rfl⟩
         simp only[ld,hq] at O8;simp only[pw,a8,ld,hq,cons_append,nil_append] at QB;apply aq;simp[hC,Pa,QB];apply aq;simp[hC];refine TL.cU OU rfl rfl rfl rfl (bR.of rfl O4 (O8)) (TL.go' ag ?_);simp[hC];refine TL.cU OU rfl rfl rfl rfl (bR.of rfl O4 (Qc)) (TL.go' ag ?_);simp[hC];refine bh ?_;simp;apply T.skip;simp;apply aG;simp[hC,wk];refine⟨al.length-(k+1),by omega,?_⟩;refine aa.trim [12,7,6,5,0,1] [0] 1 xr yA ⟨k+1,rfl,by omega,?_⟩;simp
        | exp e=>
         simp only[okA,bV e] at QG;simp only[pw,bV e,lh,cons_append,nil_append] at QB;apply aq;simp[hC,Pa,QB];apply aq;simp[hC];refine TL.cU OU rfl rfl rfl rfl (bR.of rfl O4 (ik)) (TL.go' ag ?_);simp[hC];refine TL.cU OU rfl rfl rfl rfl (bR.of rfl O4 (QG)) (TL.go' ag ?_);simp[hC];refine bh ?_;simp;apply T.skip;simp;apply aG;simp[hC,wk];refine⟨al.length-(k+1),by omega,?_⟩;refine aa.trim [12,7,6,5,0,1] [0] 1 xr yA ⟨k+1,rfl,by omega,?_⟩;simp
       ·apply aT;simp[hC,Pa];refine bh ?_;simp;apply T.exit;simp;refine aa.trim [7,6,5,0,1] [0] 1 xr yA ?_;simp
     rintro s rfl;apply aq;simp[hC];apply aq;simp[hC];refine bh ?_;simp;apply T.skip;simp;apply aG;simp[hC,wi];refine⟨l.length-(i+1),by omega,?_⟩;refine aa.trim [5,0,1] [] 0 xr yA ⟨i+1,rfl,by omega,?_⟩;simp
  ·apply aT;simp[hC,OP];refine bh ?_;simp;apply T.exit;simp;apply aq;simp[hC];apply T.ret;apply aa.here;simp[Tryz.results127]
end Go.Proofs.YtlkmbdfhdknlgaaGreat
