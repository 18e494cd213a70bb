/- noExpr, noRef, okRef, okStmts. -/
import Derived.Test.YtnecpnjdonibmaaGreatZ30
namespace Go.Proofs.YtnecpnjdonibmaaGreat
open Go.Can Go.aP
theorem sf:af Tryz.prog 258 [.agg (bR .zero)] (.bool true):=by
 refine af.aK ai Tryz.func258 rfl OV (by simp[Tryz.ntmps258]) rfl fun C hC O0=>?_;rw[Tryz.ntmps258] at hC;apply aq;simp[hC,bR,eS];apply aq;simp[hC,iB];apply T.ret;apply ae.here;simp[Tryz.results258]
theorem hD:af Tryz.prog 260 [.agg k8] (.bool true):=by
 refine af.aK ai Tryz.func260 rfl OV (by simp[Tryz.ntmps260]) rfl fun C hC O0=>?_;rw[Tryz.ntmps260] at hC;apply aq;simp[hC,k8,eS];apply aq;simp[hC,iB];apply T.ret;apply ae.here;simp[Tryz.results260]
def RfR (r:Rf):Prop:=mO r.name∧∀ e,r.index=some e→af Tryz.prog 257 [.agg (bR e)] (.bool true)
theorem vk (r:Rf)(h:RfR r):af Tryz.prog 259 [.agg (kY r)] (.bool true):=by
 obtain⟨nm,ix⟩:=r;obtain⟨h1,h2⟩:=h;have hn:=jL nm h1.1 h1.2;refine af.aK ai Tryz.func259 rfl OV (by simp[Tryz.ntmps259]) rfl fun C hC O0=>?_;rw[Tryz.ntmps259] at hC
 cases ix with
 | none=>
  apply aq;simp[hC,kY,pv];apply aq;simp[hC];refine dz Pc (hn) ?_;simp[hC];apply T.ret;apply ae.here;simp[Tryz.results259]
 | some e=>
  have hv:=h2 e rfl;apply aq;simp[hC,kY,pv];apply aq;simp[hC];refine dz Pc (hn) ?_;simp[hC];refine TL.cm O5 rfl rfl rfl rfl (bN.of rfl WC (hv)) (TL.go' ai ?_);simp[hC];apply T.ret;apply ae.here;simp[Tryz.results259]
def okA (a:Ar):Prop:=match a with
 | .vm r=>RfR r
 | .exp e=>af Tryz.prog 257 [.agg (bR e)] (.bool true)
def J90 (l:List Sm)(deep:Nat)(n:Nat)(s:St):Prop:=∃ i:Nat,n=l.length-i∧i≤l.length∧s=⟨[(5,I i),(0,.aA (bx l) l.length),(1,I deep)],[],0⟩
set_option maxHeartbeats 8000000 in
theorem zi (l:List Sm)(deep:Nat)(hd:deep<20)(hl:l.length≤100000)
  (h:∀ s∈l,(match s with
   | .g6 nm e=>mO nm∧af Tryz.prog 257 [.agg (bR e)] (.bool true)
   | .iD nm e=>mO nm∧af Tryz.prog 257 [.agg (bR e)] (.bool true)
   | .ef _ nm al=>mO nm∧al.length≤1000∧∀ a∈al,okA a
   | .dA _ r=>RfR r
   | .lE e th el=>af Tryz.prog 257 [.agg (bR e)] (.bool true)∧af Tryz.prog 201 [.aA (bx th) th.length,I ((deep+1:Nat))] (.bool true)∧af Tryz.prog 201 [.aA (bx el) el.length,I ((deep+1:Nat))] (.bool true)
   | .cJ e th=>af Tryz.prog 257 [.agg (bR e)] (.bool true)∧af Tryz.prog 201 [.aA (bx th) th.length,I ((deep+1:Nat))] (.bool true)
   | .jF=>True)):af Tryz.prog 201 [.aA (bx l) l.length,I deep] (.bool true):=by
 have Qu:=fun (i:Nat) (x:Sm) (h:l[i]? = some x)=>aN (f:=ik) (n:=11) kE (m:=l) h;rw[← oE] at Qu;have hd24:¬ (24:Int)≤deep:=by omega
 have wd:=cC ((deep:Int)+1) yA yA;refine af.aK ai Tryz.func201 rfl OV (by simp[Tryz.ntmps201]) rfl fun C hC O0=>?_;rw[Tryz.ntmps201] at hC;apply aq;simp[hC];apply aO;simp[hC,hd24];refine a7 ?_;simp;apply T.skip;simp;apply aO;simp[hC];apply T.block;refine T.aH (J90 l deep) (n:=l.length) ?_ ?_
 ·refine ae.le (Le.env [5,0,1]) (ae.here ⟨0,by omega,by omega,?_⟩);simp
 ·rintro n s ⟨i,rfl,hi,rfl⟩;by_cases OX:i<l.length
  ·obtain⟨x,hx⟩:∃ x,l[i]? = some x:=⟨l[i],List.getElem?_eq_getElem OX⟩;have OZ:=Qu i x hx;have hh:=h x (List.mem_of_getElem? hx);have wi:=cC ((i:Int)+1) yA yA;apply aO;simp[hC,OX];refine fB ?_;simp;apply ed
   cases x with
   | g6 nm e=>
    obtain⟨h1,h2⟩:=hh;have hn:=jL nm h1.1 h1.2;simp only[ik,b9 e,k8,List.cons_append,List.nil_append] at OZ;rw[b9 e] at h2;apply aq;simp[hC,OX,OZ];apply aq;simp[hC];apply aq;simp[hC];apply aq;simp[hC];apply aq;simp[hC];refine T.le (Le.trim [11,10,9,8,7,6,5,0,1] [0] 1 OU yA) ?_;simp;apply aO;simp[hC];refine TL.cm O5 rfl rfl rfl rfl (bN.of rfl Pc (hn)) (TL.go' ai ?_);simp[hC];refine TL.cm O5 rfl rfl rfl rfl (bN.of rfl Pc (h2)) (TL.go' ai ?_);simp[hC];refine TL.cm O5 rfl rfl rfl rfl (bN.of rfl Pc (hD)) (TL.go' ai ?_);simp[hC];refine a7 ?_;simp;apply T.skip;simp;refine T.cut (fun s=>s=⟨[(7,I 1),(6,.ax 0 0),(5,I i),(0,.aA (bx l) l.length),(1,I deep)],[(0,⟨265,0,[I 1,.str nm,I e.op,I e.n,.str e.name,.aA (e.args.flatMap bR) e.args.length,.str eS,.aA [] 0,.aA [] 0,.aA [] 0,.aA [] 0]⟩)],1⟩) ?_ ?_
    ·apply aq;simp[hC];apply T.block;refine T.aH (fun m s=>s=⟨[(12,.int .i64 0),(7,I 1),(6,.ax 0 0),(5,I i),(0,.aA (bx l) l.length),(1,I deep)],[(0,⟨265,0,[I 1,.str nm,I e.op,I e.n,.str e.name,.aA (e.args.flatMap bR) e.args.length,.str eS,.aA [] 0,.aA [] 0,.aA [] 0,.aA [] 0]⟩)],1⟩) (n:=0) ?_ ?_
     ·refine ae.trim [12,7,6,5,0,1] [0] 1 OU yA ?_;simp
     ·rintro m s rfl;apply aO;simp[hC];refine a7 ?_;simp;apply T.exit;simp;refine ae.trim [7,6,5,0,1] [0] 1 OU yA ?_;simp
    rintro s rfl;apply aq;simp[hC];apply aq;simp[hC];refine a7 ?_;simp;apply T.skip;simp;apply aV;simp[hC,wi];refine⟨l.length-(i+1),by omega,?_⟩;refine ae.trim [5,0,1] [] 0 OU yA ⟨i+1,rfl,by omega,?_⟩;simp
   | iD nm e=>
    obtain⟨h1,h2⟩:=hh;have hn:=jL nm h1.1 h1.2;simp only[ik,b9 e,k8,List.cons_append,List.nil_append] at OZ;rw[b9 e] at h2;apply aq;simp[hC,OX,OZ];apply aq;simp[hC];apply aq;simp[hC];apply aq;simp[hC];apply aq;simp[hC];refine T.le (Le.trim [11,10,9,8,7,6,5,0,1] [0] 1 OU yA) ?_;simp;apply aO;simp[hC];refine TL.cm O5 rfl rfl rfl rfl (bN.of rfl Pc (hn)) (TL.go' ai ?_);simp[hC];refine TL.cm O5 rfl rfl rfl rfl (bN.of rfl Pc (h2)) (TL.go' ai ?_);simp[hC];refine TL.cm O5 rfl rfl rfl rfl (bN.of rfl Pc (hD)) (TL.go' ai ?_);simp[hC];refine a7 ?_;simp;apply T.skip;simp;refine T.cut (fun s=>s=⟨[(7,I 2),(6,.ax 0 0),(5,I i),(0,.aA (bx l) l.length),(1,I deep)],[(0,⟨265,0,[I 2,.str nm,I e.op,I e.n,.str e.name,.aA (e.args.flatMap bR) e.args.length,.str eS,.aA [] 0,.aA [] 0,.aA [] 0,.aA [] 0]⟩)],1⟩) ?_ ?_
    ·apply aq;simp[hC];apply T.block;refine T.aH (fun m s=>s=⟨[(12,.int .i64 0),(7,I 2),(6,.ax 0 0),(5,I i),(0,.aA (bx l) l.length),(1,I deep)],[(0,⟨265,0,[I 2,.str nm,I e.op,I e.n,.str e.name,.aA (e.args.flatMap bR) e.args.length,.str eS,.aA [] 0,.aA [] 0,.aA [] 0,.aA [] 0]⟩)],1⟩) (n:=0) ?_ ?_
     ·refine ae.trim [12,7,6,5,0,1] [0] 1 OU yA ?_;simp
     ·rintro m s rfl;apply aO;simp[hC];refine a7 ?_;simp;apply T.exit;simp;refine ae.trim [7,6,5,0,1] [0] 1 OU yA ?_;simp
    rintro s rfl;apply aq;simp[hC];apply aq;simp[hC];refine a7 ?_;simp;apply T.skip;simp;apply aV;simp[hC,wi];refine⟨l.length-(i+1),by omega,?_⟩;refine ae.trim [5,0,1] [] 0 OU yA ⟨i+1,rfl,by omega,?_⟩;simp
   | jF=>
    have PW:=sf;simp only[ik,bR,k8,List.cons_append,List.nil_append] at OZ PW;apply aq;simp[hC,OX,OZ];apply aq;simp[hC];apply aq;simp[hC];apply aq;simp[hC];apply aq;simp[hC];refine T.le (Le.trim [11,10,9,8,7,6,5,0,1] [0] 1 OU yA) ?_;simp;apply aO;simp[hC,jW,eS];refine TL.cm O5 rfl rfl rfl rfl (bN.of rfl Pc (PW)) (TL.go' ai ?_);simp[hC];refine TL.cm O5 rfl rfl rfl rfl (bN.of rfl Pc (hD)) (TL.go' ai ?_);simp[hC];refine a7 ?_;simp;apply T.skip;simp;refine T.cut (fun s=>s=⟨[(7,I 9),(6,.ax 0 0),(5,I i),(0,.aA (bx l) l.length),(1,I deep)],[(0,⟨265,0,[I 9,.str ⟨#[]⟩,I 0,I 0,.str ⟨#[]⟩,.aA [] 0,.str ⟨#[]⟩,.aA [] 0,.aA [] 0,.aA [] 0,.aA [] 0]⟩)],1⟩) ?_ ?_
    ·apply aq;simp[hC];apply T.block;refine T.aH (fun m s=>s=⟨[(12,.int .i64 0),(7,I 9),(6,.ax 0 0),(5,I i),(0,.aA (bx l) l.length),(1,I deep)],[(0,⟨265,0,[I 9,.str ⟨#[]⟩,I 0,I 0,.str ⟨#[]⟩,.aA [] 0,.str ⟨#[]⟩,.aA [] 0,.aA [] 0,.aA [] 0,.aA [] 0]⟩)],1⟩) (n:=0) ?_ ?_
     ·refine ae.trim [12,7,6,5,0,1] [0] 1 OU yA ?_;simp
     ·rintro m s rfl;apply aO;simp[hC];refine a7 ?_;simp;apply T.exit;simp;refine ae.trim [7,6,5,0,1] [0] 1 OU yA ?_;simp
    rintro s rfl;apply aq;simp[hC];apply aq;simp[hC];refine a7 ?_;simp;apply T.skip;simp;apply aV;simp[hC,wi];refine⟨l.length-(i+1),by omega,?_⟩;refine ae.trim [5,0,1] [] 0 OU yA ⟨i+1,rfl,by omega,?_⟩;simp
   | dA u r=>
    have PW:=sf;have Pe:=vk r hh;obtain⟨rn,ri⟩:=r;obtain⟨q1,q2,hq⟩:∃ cs n,pv ri=.aA cs n:=by cases ri<;>exact⟨_,_,rfl⟩
    simp only[kY,hq] at Pe;simp only[ik,bR,kY,hq,List.cons_append,List.nil_append] at OZ PW
    cases u with
    | false=>
     have e5:(if false=true then (6:Int) else 5)=5:=rfl;rw[e5] at OZ;apply aq;simp[hC,OX,OZ];apply aq;simp[hC];apply aq;simp[hC];apply aq;simp[hC];apply aq;simp[hC];refine T.le (Le.trim [11,10,9,8,7,6,5,0,1] [0] 1 OU yA) ?_;simp;apply aO;simp[hC,jW,eS];refine TL.cm O5 rfl rfl rfl rfl (bN.of rfl Pc (PW)) (TL.go' ai ?_);simp[hC];refine TL.cm O5 rfl rfl rfl rfl (bN.of rfl Pc (Pe)) (TL.go' ai ?_);simp[hC];refine a7 ?_;simp;apply T.skip;simp;refine T.cut (fun s=>s=⟨[(7,I 5),(6,.ax 0 0),(5,I i),(0,.aA (bx l) l.length),(1,I deep)],[(0,⟨265,0,[I 5,.str ⟨#[]⟩,I 0,I 0,.str ⟨#[]⟩,.aA [] 0,.str rn,.aA q1 q2,.aA [] 0,.aA [] 0,.aA [] 0]⟩)],1⟩) ?_ ?_
     ·apply aq;simp[hC];apply T.block;refine T.aH (fun m s=>s=⟨[(12,.int .i64 0),(7,I 5),(6,.ax 0 0),(5,I i),(0,.aA (bx l) l.length),(1,I deep)],[(0,⟨265,0,[I 5,.str ⟨#[]⟩,I 0,I 0,.str ⟨#[]⟩,.aA [] 0,.str rn,.aA q1 q2,.aA [] 0,.aA [] 0,.aA [] 0]⟩)],1⟩) (n:=0) ?_ ?_
      ·refine ae.trim [12,7,6,5,0,1] [0] 1 OU yA ?_;simp
      ·rintro m s rfl;apply aO;simp[hC];refine a7 ?_;simp;apply T.exit;simp;refine ae.trim [7,6,5,0,1] [0] 1 OU yA ?_;simp
     rintro s rfl;apply aq;simp[hC];apply aq;simp[hC];refine a7 ?_;simp;apply T.skip;simp;apply aV;simp[hC,wi];refine⟨l.length-(i+1),by omega,?_⟩;refine ae.trim [5,0,1] [] 0 OU yA ⟨i+1,rfl,by omega,?_⟩;simp
    | true=>
     have e5:(if true=true then (6:Int) else 5)=6:=rfl;rw[e5] at OZ;apply aq;simp[hC,OX,OZ];apply aq;simp[hC];apply aq;simp[hC];apply aq;simp[hC];apply aq;simp[hC];refine T.le (Le.trim [11,10,9,8,7,6,5,0,1] [0] 1 OU yA) ?_;simp;apply aO;simp[hC,jW,eS];refine TL.cm O5 rfl rfl rfl rfl (bN.of rfl Pc (PW)) (TL.go' ai ?_);simp[hC];refine TL.cm O5 rfl rfl rfl rfl (bN.of rfl Pc (Pe)) (TL.go' ai ?_);simp[hC];refine a7 ?_;simp;apply T.skip;simp;refine T.cut (fun s=>s=⟨[(7,I 6),(6,.ax 0 0),(5,I i),(0,.aA (bx l) l.length),(1,I deep)],[(0,⟨265,0,[I 6,.str ⟨#[]⟩,I 0,I 0,.str ⟨#[]⟩,.aA [] 0,.str rn,.aA q1 q2,.aA [] 0,.aA [] 0,.aA [] 0]⟩)],1⟩) ?_ ?_
     ·apply aq;simp[hC];apply T.block;refine T.aH (fun m s=>s=⟨[(12,.int .i64 0),(7,I 6),(6,.ax 0 0),(5,I i),(0,.aA (bx l) l.length),(1,I deep)],[(0,⟨265,0,[I 6,.str ⟨#[]⟩,I 0,I 0,.str ⟨#[]⟩,.aA [] 0,.str rn,.aA q1 q2,.aA [] 0,.aA [] 0,.aA [] 0]⟩)],1⟩) (n:=0) ?_ ?_
      ·refine ae.trim [12,7,6,5,0,1] [0] 1 OU yA ?_;simp
      ·rintro m s rfl;apply aO;simp[hC];refine a7 ?_;simp;apply T.exit;simp;refine ae.trim [7,6,5,0,1] [0] 1 OU yA ?_;simp
     rintro s rfl;apply aq;simp[hC];apply aq;simp[hC];refine a7 ?_;simp;apply T.skip;simp;apply aV;simp[hC,wi];refine⟨l.length-(i+1),by omega,?_⟩;refine ae.trim [5,0,1] [] 0 OU yA ⟨i+1,rfl,by omega,?_⟩;simp
   | lE e th el=>
    obtain⟨h2,h3,h4⟩:=hh;simp only[ik,b9 e,k8,List.cons_append,List.nil_append] at OZ;rw[b9 e] at h2;have c1:(((deep+1:Nat)):Int)=deep+1:=by omega
    rw[c1] at h3 h4;apply aq;simp[hC,OX,OZ];apply aq;simp[hC];apply aq;simp[hC];apply aq;simp[hC];apply aq;simp[hC];refine T.le (Le.trim [11,10,9,8,7,6,5,0,1] [0] 1 OU yA) ?_;simp;apply aO;simp[hC,jW,eS];refine TL.cm O5 rfl rfl rfl rfl (bN.of rfl Pc (h2)) (TL.go' ai ?_);simp[hC];refine TL.cm O5 rfl rfl rfl rfl (bN.of rfl Pc (hD)) (TL.go' ai ?_);simp[hC];refine a7 ?_;simp;apply T.skip;simp;refine T.cut (fun s=>s=⟨[(7,I 7),(6,.ax 0 0),(5,I i),(0,.aA (bx l) l.length),(1,I deep)],[(0,⟨265,0,[I 7,.str ⟨#[]⟩,I e.op,I e.n,.str e.name,.aA (e.args.flatMap bR) e.args.length,.str ⟨#[]⟩,.aA [] 0,.aA [] 0,.aA (bx th) th.length,.aA (bx el) el.length]⟩)],1⟩) ?_ ?_
    ·apply aq;simp[hC];apply T.block;refine T.aH (fun m s=>s=⟨[(12,.int .i64 0),(7,I 7),(6,.ax 0 0),(5,I i),(0,.aA (bx l) l.length),(1,I deep)],[(0,⟨265,0,[I 7,.str ⟨#[]⟩,I e.op,I e.n,.str e.name,.aA (e.args.flatMap bR) e.args.length,.str ⟨#[]⟩,.aA [] 0,.aA [] 0,.aA (bx th) th.length,.aA (bx el) el.length]⟩)],1⟩) (n:=0) ?_ ?_
     ·refine ae.trim [12,7,6,5,0,1] [0] 1 OU yA ?_;simp
     ·rintro m s rfl;apply aO;simp[hC];refine a7 ?_;simp;apply T.exit;simp;refine ae.trim [7,6,5,0,1] [0] 1 OU yA ?_;simp
    rintro s rfl;apply aq;simp[hC];by_cases PH:0<el.length
    ·apply aq;simp[hC,wd];refine TL.cm O5 rfl rfl rfl rfl (bN.of rfl Pc (h3)) (TL.go' ai ?_);simp[hC,PH,wd];refine TL.cm O5 rfl rfl rfl rfl (bN.of rfl Pc (h4)) (TL.go' ai ?_);simp[hC];refine a7 ?_;simp;apply T.skip;simp;apply aV;simp[hC,wi];refine⟨l.length-(i+1),by omega,?_⟩;refine ae.trim [5,0,1] [] 0 OU yA ⟨i+1,rfl,by omega,?_⟩;simp
    ·apply aq;simp[hC,wd];refine TL.cm O5 rfl rfl rfl rfl (bN.of rfl Pc (h3)) (TL.go' ai ?_);simp[hC,PH];refine a7 ?_;simp;apply T.skip;simp;apply aV;simp[hC,wi];refine⟨l.length-(i+1),by omega,?_⟩;refine ae.trim [5,0,1] [] 0 OU yA ⟨i+1,rfl,by omega,?_⟩;simp
   | cJ e th=>
    obtain⟨h2,h3⟩:=hh;simp only[ik,b9 e,k8,List.cons_append,List.nil_append] at OZ;rw[b9 e] at h2;have c1:(((deep+1:Nat)):Int)=deep+1:=by omega
    rw[c1] at h3;apply aq;simp[hC,OX,OZ];apply aq;simp[hC];apply aq;simp[hC];apply aq;simp[hC];apply aq;simp[hC];refine T.le (Le.trim [11,10,9,8,7,6,5,0,1] [0] 1 OU yA) ?_;simp;apply aO;simp[hC,jW,eS];refine TL.cm O5 rfl rfl rfl rfl (bN.of rfl Pc (h2)) (TL.go' ai ?_);simp[hC];refine TL.cm O5 rfl rfl rfl rfl (bN.of rfl Pc (hD)) (TL.go' ai ?_);simp[hC];refine a7 ?_;simp;apply T.skip;simp;refine T.cut (fun s=>s=⟨[(7,I 8),(6,.ax 0 0),(5,I i),(0,.aA (bx l) l.length),(1,I deep)],[(0,⟨265,0,[I 8,.str ⟨#[]⟩,I e.op,I e.n,.str e.name,.aA (e.args.flatMap bR) e.args.length,.str ⟨#[]⟩,.aA [] 0,.aA [] 0,.aA (bx th) th.length,.aA [] 0]⟩)],1⟩) ?_ ?_
    ·apply aq;simp[hC];apply T.block;refine T.aH (fun m s=>s=⟨[(12,.int .i64 0),(7,I 8),(6,.ax 0 0),(5,I i),(0,.aA (bx l) l.length),(1,I deep)],[(0,⟨265,0,[I 8,.str ⟨#[]⟩,I e.op,I e.n,.str e.name,.aA (e.args.flatMap bR) e.args.length,.str ⟨#[]⟩,.aA [] 0,.aA [] 0,.aA (bx th) th.length,.aA [] 0]⟩)],1⟩) (n:=0) ?_ ?_
     ·refine ae.trim [12,7,6,5,0,1] [0] 1 OU yA ?_;simp
     ·rintro m s rfl;apply aO;simp[hC];refine a7 ?_;simp;apply T.exit;simp;refine ae.trim [7,6,5,0,1] [0] 1 OU yA ?_;simp
    rintro s rfl;apply aq;simp[hC];apply aq;simp[hC,wd];refine TL.cm O5 rfl rfl rfl rfl (bN.of rfl Pc (h3)) (TL.go' ai ?_);simp[hC];refine a7 ?_;simp;apply T.skip;simp;apply aV;simp[hC,wi];refine⟨l.length-(i+1),by omega,?_⟩;refine ae.trim [5,0,1] [] 0 OU yA ⟨i+1,rfl,by omega,?_⟩;simp
   | ef g nm al=>
    obtain⟨h1,h2,h3⟩:=hh;have hn:=jL nm h1.1 h1.2;have PW:=sf;simp only[ik,bR,k8,List.cons_append,List.nil_append] at OZ PW;have V5:=fun (k:Nat) (a:Ar) (h:al[k]? = some a)=>aN (f:=pe) (n:=7) uE (m:=al) h;have Wv:=fun (k:Nat) (a:Ar) (h:al[k]? = some a)=>h3 a (List.mem_of_getElem? h);clear h3
    cases g with
    | false=>
     have e5:(if false=true then (4:Int) else 3)=3:=rfl;rw[e5] at OZ;apply aq;simp[hC,OX,OZ];apply aq;simp[hC];apply aq;simp[hC];apply aq;simp[hC];apply aq;simp[hC];refine T.le (Le.trim [11,10,9,8,7,6,5,0,1] [0] 1 OU yA) ?_;simp;apply aO;simp[hC,eS];refine TL.cm O5 rfl rfl rfl rfl (bN.of rfl Pc (hn)) (TL.go' ai ?_);simp[hC];refine TL.cm O5 rfl rfl rfl rfl (bN.of rfl Pc (PW)) (TL.go' ai ?_);simp[hC];refine TL.cm O5 rfl rfl rfl rfl (bN.of rfl Pc (hD)) (TL.go' ai ?_);simp[hC];refine a7 ?_;simp;apply T.skip;simp;refine T.cut (fun s=>s=⟨[(7,I 3),(6,.ax 0 0),(5,I i),(0,.aA (bx l) l.length),(1,I deep)],[(0,⟨265,0,[I 3,.str nm,I 0,I 0,.str ⟨#[]⟩,.aA [] 0,.str ⟨#[]⟩,.aA [] 0,.aA (al.flatMap pe) al.length,.aA [] 0,.aA [] 0]⟩)],1⟩) ?_ ?_
     ·apply aq;simp[hC];apply T.block;refine T.aH (fun m s=>∃ k:Nat,m=al.length-k∧k≤al.length∧s=⟨[(12,I k),(7,I 3),(6,.ax 0 0),(5,I i),(0,.aA (bx l) l.length),(1,I deep)],[(0,⟨265,0,[I 3,.str nm,I 0,I 0,.str ⟨#[]⟩,.aA [] 0,.str ⟨#[]⟩,.aA [] 0,.aA (al.flatMap pe) al.length,.aA [] 0,.aA [] 0]⟩)],1⟩) (n:=al.length) ?_ ?_
      ·refine ae.trim [12,7,6,5,0,1] [0] 1 OU yA ⟨0,by omega,by omega,?_⟩;simp
      ·rintro m s ⟨k,rfl,hk,rfl⟩;by_cases PD:k<al.length
       ·obtain⟨a,Zi⟩:∃ a,al[k]? = some a:=⟨al[k],List.getElem?_eq_getElem PD⟩;have QE:=V5 k a Zi;have QI:=Wv k a Zi;have wk:=cC ((k:Int)+1) yA yA;apply aO;simp[hC,PD];refine fB ?_;simp;apply ed
        cases a with
        | vm r=>
         have Pe:=vk r QI;obtain⟨rn,ri⟩:=r;obtain⟨q1,q2,hq⟩:∃ cs n,pv ri=.aA cs n:=by cases ri<;>exact⟨_,_,rfl⟩
         simp only[kY,hq] at Pe;simp only[pe,bR,kY,hq,List.cons_append,List.nil_append] at QE;apply aq;simp[hC,PD,QE];apply aq;simp[hC];refine TL.cm O5 rfl rfl rfl rfl (bN.of rfl Pc (Pe)) (TL.go' ai ?_);simp[hC];refine TL.cm O5 rfl rfl rfl rfl (bN.of rfl Pc (PW)) (TL.go' ai ?_);simp[hC];refine a7 ?_;simp;apply T.skip;simp;apply aV;simp[hC,wk];refine⟨al.length-(k+1),by omega,?_⟩;refine ae.trim [12,7,6,5,0,1] [0] 1 OU yA ⟨k+1,rfl,by omega,?_⟩;simp
        | exp e=>
         simp only[okA,b9 e] at QI;simp only[pe,b9 e,k8,List.cons_append,List.nil_append] at QE;apply aq;simp[hC,PD,QE];apply aq;simp[hC];refine TL.cm O5 rfl rfl rfl rfl (bN.of rfl Pc (hD)) (TL.go' ai ?_);simp[hC];refine TL.cm O5 rfl rfl rfl rfl (bN.of rfl Pc (QI)) (TL.go' ai ?_);simp[hC];refine a7 ?_;simp;apply T.skip;simp;apply aV;simp[hC,wk];refine⟨al.length-(k+1),by omega,?_⟩;refine ae.trim [12,7,6,5,0,1] [0] 1 OU yA ⟨k+1,rfl,by omega,?_⟩;simp
       ·apply aO;simp[hC,PD];refine a7 ?_;simp;apply T.exit;simp;refine ae.trim [7,6,5,0,1] [0] 1 OU yA ?_;simp
     rintro s rfl;apply aq;simp[hC];apply aq;simp[hC];refine a7 ?_;simp;apply T.skip;simp;apply aV;simp[hC,wi];refine⟨l.length-(i+1),by omega,?_⟩;refine ae.trim [5,0,1] [] 0 OU yA ⟨i+1,rfl,by omega,?_⟩;simp
    | true=>
     have e5:(if true=true then (4:Int) else 3)=4:=rfl;rw[e5] at OZ;apply aq;simp[hC,OX,OZ];apply aq;simp[hC];apply aq;simp[hC];apply aq;simp[hC];apply aq;simp[hC];refine T.le (Le.trim [11,10,9,8,7,6,5,0,1] [0] 1 OU yA) ?_;simp;apply aO;simp[hC,eS];refine TL.cm O5 rfl rfl rfl rfl (bN.of rfl Pc (hn)) (TL.go' ai ?_);simp[hC];refine TL.cm O5 rfl rfl rfl rfl (bN.of rfl Pc (PW)) (TL.go' ai ?_);simp[hC];refine TL.cm O5 rfl rfl rfl rfl (bN.of rfl Pc (hD)) (TL.go' ai ?_);simp[hC];refine a7 ?_;simp;apply T.skip;simp;refine T.cut (fun s=>s=⟨[(7,I 4),(6,.ax 0 0),(5,I i),(0,.aA (bx l) l.length),(1,I deep)],[(0,⟨265,0,[I 4,.str nm,I 0,I 0,.str ⟨#[]⟩,.aA [] 0,.str ⟨#[]⟩,.aA [] 0,.aA (al.flatMap pe) al.length,.aA [] 0,.aA [] 0]⟩)],1⟩) ?_ ?_
     ·apply aq;simp[hC];apply T.block;refine T.aH (fun m s=>∃ k:Nat,m=al.length-k∧k≤al.length∧s=⟨[(12,I k),(7,I 4),(6,.ax 0 0),(5,I i),(0,.aA (bx l) l.length),(1,I deep)],[(0,⟨265,0,[I 4,.str nm,I 0,I 0,.str ⟨#[]⟩,.aA [] 0,.str ⟨#[]⟩,.aA [] 0,.aA (al.flatMap pe) al.length,.aA [] 0,.aA [] 0]⟩)],1⟩) (n:=al.length) ?_ ?_
      ·refine ae.trim [12,7,6,5,0,1] [0] 1 OU yA ⟨0,by omega,by omega,?_⟩;simp
      ·rintro m s ⟨k,rfl,hk,rfl⟩;by_cases PD:k<al.length
       ·obtain⟨a,Zi⟩:∃ a,al[k]? = some a:=⟨al[k],List.getElem?_eq_getElem PD⟩;have QE:=V5 k a Zi;have QI:=Wv k a Zi;have wk:=cC ((k:Int)+1) yA yA;apply aO;simp[hC,PD];refine fB ?_;simp;apply ed
        cases a with
        | vm r=>
         have Pe:=vk r QI;obtain⟨rn,ri⟩:=r;obtain⟨q1,q2,hq⟩:∃ cs n,pv ri=.aA cs n:=by cases ri<;>exact⟨_,_,rfl⟩
         simp only[kY,hq] at Pe;simp only[pe,bR,kY,hq,List.cons_append,List.nil_append] at QE;apply aq;simp[hC,PD,QE];apply aq;simp[hC];refine TL.cm O5 rfl rfl rfl rfl (bN.of rfl Pc (Pe)) (TL.go' ai ?_);simp[hC];refine TL.cm O5 rfl rfl rfl rfl (bN.of rfl Pc (PW)) (TL.go' ai ?_);simp[hC];refine a7 ?_;simp;apply T.skip;simp;apply aV;simp[hC,wk];refine⟨al.length-(k+1),by omega,?_⟩;refine ae.trim [12,7,6,5,0,1] [0] 1 OU yA ⟨k+1,rfl,by omega,?_⟩;simp
        | exp e=>
         simp only[okA,b9 e] at QI;simp only[pe,b9 e,k8,List.cons_append,List.nil_append] at QE;apply aq;simp[hC,PD,QE];apply aq;simp[hC];refine TL.cm O5 rfl rfl rfl rfl (bN.of rfl Pc (hD)) (TL.go' ai ?_);simp[hC];refine TL.cm O5 rfl rfl rfl rfl (bN.of rfl Pc (QI)) (TL.go' ai ?_);simp[hC];refine a7 ?_;simp;apply T.skip;simp;apply aV;simp[hC,wk];refine⟨al.length-(k+1),by omega,?_⟩;refine ae.trim [12,7,6,5,0,1] [0] 1 OU yA ⟨k+1,rfl,by omega,?_⟩;simp
       ·apply aO;simp[hC,PD];refine a7 ?_;simp;apply T.exit;simp;refine ae.trim [7,6,5,0,1] [0] 1 OU yA ?_;simp
     rintro s rfl;apply aq;simp[hC];apply aq;simp[hC];refine a7 ?_;simp;apply T.skip;simp;apply aV;simp[hC,wi];refine⟨l.length-(i+1),by omega,?_⟩;refine ae.trim [5,0,1] [] 0 OU yA ⟨i+1,rfl,by omega,?_⟩;simp
  ·apply aO;simp[hC,OX];refine a7 ?_;simp;apply T.exit;simp;apply aq;simp[hC];apply T.ret;apply ae.here;simp[Tryz.results201]
end Go.Proofs.YtnecpnjdonibmaaGreat
