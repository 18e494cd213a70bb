/- noExpr, noRef, okRef, okStmts. -/
import Derived.Test.YtnecpnjdonibmaaGreatZ29
namespace Go.Proofs.YtnecpnjdonibmaaGreat
open Go.Can Go.aP
theorem ql:ae Tryz.prog 258 [.agg (bK .zero)] (.bool true):=by
 refine ae.aM ah Tryz.func258 rfl PH (by simp[Tryz.ntmps258]) rfl fun C hC PN=>?_;rw[Tryz.ntmps258] at hC;apply aj;simp[hC,bK,eS];apply aj;simp[hC,gY];apply T.ret;apply aa.here;simp[Tryz.results258]
theorem gE:ae Tryz.prog 260 [.agg ke] (.bool true):=by
 refine ae.aM ah Tryz.func260 rfl PH (by simp[Tryz.ntmps260]) rfl fun C hC PN=>?_;rw[Tryz.ntmps260] at hC;apply aj;simp[hC,ke,eS];apply aj;simp[hC,gY];apply T.ret;apply aa.here;simp[Tryz.results260]
def RfR (r:Rf):Prop:=lP r.name∧∀ e,r.index=some e→ae Tryz.prog 257 [.agg (bK e)] (.bool true)
theorem tY (r:Rf)(h:RfR r):ae Tryz.prog 259 [.agg (j9 r)] (.bool true):=by
 obtain⟨nm,ix⟩:=r;obtain⟨h1,h2⟩:=h;have hn:=jh nm h1.1 h1.2;refine ae.aM ah Tryz.func259 rfl PH (by simp[Tryz.ntmps259]) rfl fun C hC PN=>?_;rw[Tryz.ntmps259] at hC
 cases ix with
 | none=>
  apply aj;simp[hC,j9,nV];apply aj;simp[hC];refine dQ P2 (hn) ?_;simp[hC];apply T.ret;apply aa.here;simp[Tryz.results259]
 | some e=>
  have hv:=h2 e rfl;apply aj;simp[hC,j9,nV];apply aj;simp[hC];refine dQ P2 (hn) ?_;simp[hC];refine TL.cw PV rfl rfl rfl rfl (bT.of rfl Xo (hv)) (TL.go' ah ?_);simp[hC];apply T.ret;apply aa.here;simp[Tryz.results259]
def okA (a:Ar):Prop:=match a with
 | .ua r=>RfR r
 | .exp e=>ae Tryz.prog 257 [.agg (bK e)] (.bool true)
def J90 (l:List Sm)(deep:Nat)(n:Nat)(s:St):Prop:=∃ i:Nat,n=l.length-i∧i≤l.length∧s=⟨[(5,I i),(0,.az (bz l) l.length),(1,I deep)],[],0⟩
set_option maxHeartbeats 8000000 in
theorem xQ (l:List Sm)(deep:Nat)(hd:deep<20)(hl:l.length≤100000)
  (h:∀ s∈l,(match s with
   | .gA nm e=>lP nm∧ae Tryz.prog 257 [.agg (bK e)] (.bool true)
   | .hD nm e=>lP nm∧ae Tryz.prog 257 [.agg (bK e)] (.bool true)
   | .dI _ nm al=>lP nm∧al.length≤1000∧∀ a∈al,okA a
   | .di _ r=>RfR r
   | .kG e th el=>ae Tryz.prog 257 [.agg (bK e)] (.bool true)∧ae Tryz.prog 201 [.az (bz th) th.length,I ((deep+1:Nat))] (.bool true)∧ae Tryz.prog 201 [.az (bz el) el.length,I ((deep+1:Nat))] (.bool true)
   | .cC e th=>ae Tryz.prog 257 [.agg (bK e)] (.bool true)∧ae Tryz.prog 201 [.az (bz th) th.length,I ((deep+1:Nat))] (.bool true)
   | .jb=>True)):ae Tryz.prog 201 [.az (bz l) l.length,I deep] (.bool true):=by
 have Q7:=fun (i:Nat) (x:Sm) (h:l[i]? = some x)=>aO (f:=gM) (n:=11) jR (m:=l) h;rw[← mT] at Q7;have hd24:¬ (24:Int)≤deep:=by omega
 have wd:=cE ((deep:Int)+1) yA yA;refine ae.aM ah Tryz.func201 rfl PH (by simp[Tryz.ntmps201]) rfl fun C hC PN=>?_;rw[Tryz.ntmps201] at hC;apply aj;simp[hC];apply aU;simp[hC,hd24];refine bh ?_;simp;apply T.skip;simp;apply aU;simp[hC];apply T.block;refine T.aJ (J90 l deep) (n:=l.length) ?_ ?_
 ·refine aa.le (Le.env [5,0,1]) (aa.here ⟨0,by omega,by omega,?_⟩);simp
 ·rintro n s ⟨i,rfl,hi,rfl⟩;by_cases PJ:i<l.length
  ·obtain⟨x,hx⟩:∃ x,l[i]? = some x:=⟨l[i],List.getElem?_eq_getElem PJ⟩;have PL:=Q7 i x hx;have hh:=h x (List.mem_of_getElem? hx);have wi:=cE ((i:Int)+1) yA yA;apply aU;simp[hC,PJ];refine gQ ?_;simp;apply dZ
   cases x with
   | gA nm e=>
    obtain⟨h1,h2⟩:=hh;have hn:=jh nm h1.1 h1.2;simp only[gM,bU e,ke,List.cons_append,List.nil_append] at PL;rw[bU e] at h2;apply aj;simp[hC,PJ,PL];apply aj;simp[hC];apply aj;simp[hC];apply aj;simp[hC];apply aj;simp[hC];refine T.le (Le.trim [11,10,9,8,7,6,5,0,1] [0] 1 zX yA) ?_;simp;apply aU;simp[hC];refine TL.cw PV rfl rfl rfl rfl (bT.of rfl P2 (hn)) (TL.go' ah ?_);simp[hC];refine TL.cw PV rfl rfl rfl rfl (bT.of rfl P2 (h2)) (TL.go' ah ?_);simp[hC];refine TL.cw PV rfl rfl rfl rfl (bT.of rfl P2 (gE)) (TL.go' ah ?_);simp[hC];refine bh ?_;simp;apply T.skip;simp;refine T.cut (fun s=>s=⟨[(7,I 1),(6,.av 0 0),(5,I i),(0,.az (bz l) l.length),(1,I deep)],[(0,⟨265,0,[I 1,.str nm,I e.op,I e.n,.str e.name,.az (e.args.flatMap bK) e.args.length,.str eS,.az [] 0,.az [] 0,.az [] 0,.az [] 0]⟩)],1⟩) ?_ ?_
    ·apply aj;simp[hC];apply T.block;refine T.aJ (fun m s=>s=⟨[(12,.int .i64 0),(7,I 1),(6,.av 0 0),(5,I i),(0,.az (bz l) l.length),(1,I deep)],[(0,⟨265,0,[I 1,.str nm,I e.op,I e.n,.str e.name,.az (e.args.flatMap bK) e.args.length,.str eS,.az [] 0,.az [] 0,.az [] 0,.az [] 0]⟩)],1⟩) (n:=0) ?_ ?_
     ·refine aa.trim [12,7,6,5,0,1] [0] 1 zX yA ?_;simp
     ·rintro m s rfl;apply aU;simp[hC];refine bh ?_;simp;apply T.exit;simp;refine aa.trim [7,6,5,0,1] [0] 1 zX yA ?_;simp
    rintro s rfl;apply aj;simp[hC];apply aj;simp[hC];refine bh ?_;simp;apply T.skip;simp;apply aW;simp[hC,wi];refine⟨l.length-(i+1),by omega,?_⟩;refine aa.trim [5,0,1] [] 0 zX yA ⟨i+1,rfl,by omega,?_⟩;simp
   | hD nm e=>
    obtain⟨h1,h2⟩:=hh;have hn:=jh nm h1.1 h1.2;simp only[gM,bU e,ke,List.cons_append,List.nil_append] at PL;rw[bU e] at h2;apply aj;simp[hC,PJ,PL];apply aj;simp[hC];apply aj;simp[hC];apply aj;simp[hC];apply aj;simp[hC];refine T.le (Le.trim [11,10,9,8,7,6,5,0,1] [0] 1 zX yA) ?_;simp;apply aU;simp[hC];refine TL.cw PV rfl rfl rfl rfl (bT.of rfl P2 (hn)) (TL.go' ah ?_);simp[hC];refine TL.cw PV rfl rfl rfl rfl (bT.of rfl P2 (h2)) (TL.go' ah ?_);simp[hC];refine TL.cw PV rfl rfl rfl rfl (bT.of rfl P2 (gE)) (TL.go' ah ?_);simp[hC];refine bh ?_;simp;apply T.skip;simp;refine T.cut (fun s=>s=⟨[(7,I 2),(6,.av 0 0),(5,I i),(0,.az (bz l) l.length),(1,I deep)],[(0,⟨265,0,[I 2,.str nm,I e.op,I e.n,.str e.name,.az (e.args.flatMap bK) e.args.length,.str eS,.az [] 0,.az [] 0,.az [] 0,.az [] 0]⟩)],1⟩) ?_ ?_
    ·apply aj;simp[hC];apply T.block;refine T.aJ (fun m s=>s=⟨[(12,.int .i64 0),(7,I 2),(6,.av 0 0),(5,I i),(0,.az (bz l) l.length),(1,I deep)],[(0,⟨265,0,[I 2,.str nm,I e.op,I e.n,.str e.name,.az (e.args.flatMap bK) e.args.length,.str eS,.az [] 0,.az [] 0,.az [] 0,.az [] 0]⟩)],1⟩) (n:=0) ?_ ?_
     ·refine aa.trim [12,7,6,5,0,1] [0] 1 zX yA ?_;simp
     ·rintro m s rfl;apply aU;simp[hC];refine bh ?_;simp;apply T.exit;simp;refine aa.trim [7,6,5,0,1] [0] 1 zX yA ?_;simp
    rintro s rfl;apply aj;simp[hC];apply aj;simp[hC];refine bh ?_;simp;apply T.skip;simp;apply aW;simp[hC,wi];refine⟨l.length-(i+1),by omega,?_⟩;refine aa.trim [5,0,1] [] 0 zX yA ⟨i+1,rfl,by omega,?_⟩;simp
   | jb=>
    have QN:=ql;simp only[gM,bK,ke,List.cons_append,List.nil_append] at PL QN;apply aj;simp[hC,PJ,PL];apply aj;simp[hC];apply aj;simp[hC];apply aj;simp[hC];apply aj;simp[hC];refine T.le (Le.trim [11,10,9,8,7,6,5,0,1] [0] 1 zX yA) ?_;simp;apply aU;simp[hC,jt,eS];refine TL.cw PV rfl rfl rfl rfl (bT.of rfl P2 (QN)) (TL.go' ah ?_);simp[hC];refine TL.cw PV rfl rfl rfl rfl (bT.of rfl P2 (gE)) (TL.go' ah ?_);simp[hC];refine bh ?_;simp;apply T.skip;simp;refine T.cut (fun s=>s=⟨[(7,I 9),(6,.av 0 0),(5,I i),(0,.az (bz l) l.length),(1,I deep)],[(0,⟨265,0,[I 9,.str ⟨#[]⟩,I 0,I 0,.str ⟨#[]⟩,.az [] 0,.str ⟨#[]⟩,.az [] 0,.az [] 0,.az [] 0,.az [] 0]⟩)],1⟩) ?_ ?_
    ·apply aj;simp[hC];apply T.block;refine T.aJ (fun m s=>s=⟨[(12,.int .i64 0),(7,I 9),(6,.av 0 0),(5,I i),(0,.az (bz l) l.length),(1,I deep)],[(0,⟨265,0,[I 9,.str ⟨#[]⟩,I 0,I 0,.str ⟨#[]⟩,.az [] 0,.str ⟨#[]⟩,.az [] 0,.az [] 0,.az [] 0,.az [] 0]⟩)],1⟩) (n:=0) ?_ ?_
     ·refine aa.trim [12,7,6,5,0,1] [0] 1 zX yA ?_;simp
     ·rintro m s rfl;apply aU;simp[hC];refine bh ?_;simp;apply T.exit;simp;refine aa.trim [7,6,5,0,1] [0] 1 zX yA ?_;simp
    rintro s rfl;apply aj;simp[hC];apply aj;simp[hC];refine bh ?_;simp;apply T.skip;simp;apply aW;simp[hC,wi];refine⟨l.length-(i+1),by omega,?_⟩;refine aa.trim [5,0,1] [] 0 zX yA ⟨i+1,rfl,by omega,?_⟩;simp
   | di u r=>
    have QN:=ql;have P9:=tY r hh;obtain⟨rn,ri⟩:=r;obtain⟨q1,q2,hq⟩:∃ cs n,nV ri=.az cs n:=by cases ri<;>exact⟨_,_,rfl⟩
    simp only[j9,hq] at P9;simp only[gM,bK,j9,hq,List.cons_append,List.nil_append] at PL QN
    cases u with
    | false=>
     have e5:(if false=true then (6:Int) else 5)=5:=rfl;rw[e5] at PL;apply aj;simp[hC,PJ,PL];apply aj;simp[hC];apply aj;simp[hC];apply aj;simp[hC];apply aj;simp[hC];refine T.le (Le.trim [11,10,9,8,7,6,5,0,1] [0] 1 zX yA) ?_;simp;apply aU;simp[hC,jt,eS];refine TL.cw PV rfl rfl rfl rfl (bT.of rfl P2 (QN)) (TL.go' ah ?_);simp[hC];refine TL.cw PV rfl rfl rfl rfl (bT.of rfl P2 (P9)) (TL.go' ah ?_);simp[hC];refine bh ?_;simp;apply T.skip;simp;refine T.cut (fun s=>s=⟨[(7,I 5),(6,.av 0 0),(5,I i),(0,.az (bz l) l.length),(1,I deep)],[(0,⟨265,0,[I 5,.str ⟨#[]⟩,I 0,I 0,.str ⟨#[]⟩,.az [] 0,.str rn,.az q1 q2,.az [] 0,.az [] 0,.az [] 0]⟩)],1⟩) ?_ ?_
     ·apply aj;simp[hC];apply T.block;refine T.aJ (fun m s=>s=⟨[(12,.int .i64 0),(7,I 5),(6,.av 0 0),(5,I i),(0,.az (bz l) l.length),(1,I deep)],[(0,⟨265,0,[I 5,.str ⟨#[]⟩,I 0,I 0,.str ⟨#[]⟩,.az [] 0,.str rn,.az q1 q2,.az [] 0,.az [] 0,.az [] 0]⟩)],1⟩) (n:=0) ?_ ?_
      ·refine aa.trim [12,7,6,5,0,1] [0] 1 zX yA ?_;simp
      ·rintro m s rfl;apply aU;simp[hC];refine bh ?_;simp;apply T.exit;simp;refine aa.trim [7,6,5,0,1] [0] 1 zX yA ?_;simp
     rintro s rfl;apply aj;simp[hC];apply aj;simp[hC];refine bh ?_;simp;apply T.skip;simp;apply aW;simp[hC,wi];refine⟨l.length-(i+1),by omega,?_⟩;refine aa.trim [5,0,1] [] 0 zX yA ⟨i+1,rfl,by omega,?_⟩;simp
    | true=>
     have e5:(if true=true then (6:Int) else 5)=6:=rfl;rw[e5] at PL;apply aj;simp[hC,PJ,PL];apply aj;simp[hC];apply aj;simp[hC];apply aj;simp[hC];apply aj;simp[hC];refine T.le (Le.trim [11,10,9,8,7,6,5,0,1] [0] 1 zX yA) ?_;simp;apply aU;simp[hC,jt,eS];refine TL.cw PV rfl rfl rfl rfl (bT.of rfl P2 (QN)) (TL.go' ah ?_);simp[hC];refine TL.cw PV rfl rfl rfl rfl (bT.of rfl P2 (P9)) (TL.go' ah ?_);simp[hC];refine bh ?_;simp;apply T.skip;simp;refine T.cut (fun s=>s=⟨[(7,I 6),(6,.av 0 0),(5,I i),(0,.az (bz l) l.length),(1,I deep)],[(0,⟨265,0,[I 6,.str ⟨#[]⟩,I 0,I 0,.str ⟨#[]⟩,.az [] 0,.str rn,.az q1 q2,.az [] 0,.az [] 0,.az [] 0]⟩)],1⟩) ?_ ?_
     ·apply aj;simp[hC];apply T.block;refine T.aJ (fun m s=>s=⟨[(12,.int .i64 0),(7,I 6),(6,.av 0 0),(5,I i),(0,.az (bz l) l.length),(1,I deep)],[(0,⟨265,0,[I 6,.str ⟨#[]⟩,I 0,I 0,.str ⟨#[]⟩,.az [] 0,.str rn,.az q1 q2,.az [] 0,.az [] 0,.az [] 0]⟩)],1⟩) (n:=0) ?_ ?_
      ·refine aa.trim [12,7,6,5,0,1] [0] 1 zX yA ?_;simp
      ·rintro m s rfl;apply aU;simp[hC];refine bh ?_;simp;apply T.exit;simp;refine aa.trim [7,6,5,0,1] [0] 1 zX yA ?_;simp
     rintro s rfl;apply aj;simp[hC];apply aj;simp[hC];refine bh ?_;simp;apply T.skip;simp;apply aW;simp[hC,wi];refine⟨l.length-(i+1),by omega,?_⟩;refine aa.trim [5,0,1] [] 0 zX yA ⟨i+1,rfl,by omega,?_⟩;simp
   | kG e th el=>
    obtain⟨h2,h3,h4⟩:=hh;simp only[gM,bU e,ke,List.cons_append,List.nil_append] at PL;rw[bU e] at h2;have c1:(((deep+1:Nat)):Int)=deep+1:=by omega
    rw[c1] at h3 h4;apply aj;simp[hC,PJ,PL];apply aj;simp[hC];apply aj;simp[hC];apply aj;simp[hC];apply aj;simp[hC];refine T.le (Le.trim [11,10,9,8,7,6,5,0,1] [0] 1 zX yA) ?_;simp;apply aU;simp[hC,jt,eS];refine TL.cw PV rfl rfl rfl rfl (bT.of rfl P2 (h2)) (TL.go' ah ?_);simp[hC];refine TL.cw PV rfl rfl rfl rfl (bT.of rfl P2 (gE)) (TL.go' ah ?_);simp[hC];refine bh ?_;simp;apply T.skip;simp;refine T.cut (fun s=>s=⟨[(7,I 7),(6,.av 0 0),(5,I i),(0,.az (bz l) l.length),(1,I deep)],[(0,⟨265,0,[I 7,.str ⟨#[]⟩,I e.op,I e.n,.str e.name,.az (e.args.flatMap bK) e.args.length,.str ⟨#[]⟩,.az [] 0,.az [] 0,.az (bz th) th.length,.az (bz el) el.length]⟩)],1⟩) ?_ ?_
    ·apply aj;simp[hC];apply T.block;refine T.aJ (fun m s=>s=⟨[(12,.int .i64 0),(7,I 7),(6,.av 0 0),(5,I i),(0,.az (bz l) l.length),(1,I deep)],[(0,⟨265,0,[I 7,.str ⟨#[]⟩,I e.op,I e.n,.str e.name,.az (e.args.flatMap bK) e.args.length,.str ⟨#[]⟩,.az [] 0,.az [] 0,.az (bz th) th.length,.az (bz el) el.length]⟩)],1⟩) (n:=0) ?_ ?_
     ·refine aa.trim [12,7,6,5,0,1] [0] 1 zX yA ?_;simp
     ·rintro m s rfl;apply aU;simp[hC];refine bh ?_;simp;apply T.exit;simp;refine aa.trim [7,6,5,0,1] [0] 1 zX yA ?_;simp
    rintro s rfl;apply aj;simp[hC];by_cases Qq:0<el.length
    ·apply aj;simp[hC,wd];refine TL.cw PV rfl rfl rfl rfl (bT.of rfl P2 (h3)) (TL.go' ah ?_);simp[hC,Qq,wd];refine TL.cw PV rfl rfl rfl rfl (bT.of rfl P2 (h4)) (TL.go' ah ?_);simp[hC];refine bh ?_;simp;apply T.skip;simp;apply aW;simp[hC,wi];refine⟨l.length-(i+1),by omega,?_⟩;refine aa.trim [5,0,1] [] 0 zX yA ⟨i+1,rfl,by omega,?_⟩;simp
    ·apply aj;simp[hC,wd];refine TL.cw PV rfl rfl rfl rfl (bT.of rfl P2 (h3)) (TL.go' ah ?_);simp[hC,Qq];refine bh ?_;simp;apply T.skip;simp;apply aW;simp[hC,wi];refine⟨l.length-(i+1),by omega,?_⟩;refine aa.trim [5,0,1] [] 0 zX yA ⟨i+1,rfl,by omega,?_⟩;simp
   | cC e th=>
    obtain⟨h2,h3⟩:=hh;simp only[gM,bU e,ke,List.cons_append,List.nil_append] at PL;rw[bU e] at h2;have c1:(((deep+1:Nat)):Int)=deep+1:=by omega
    rw[c1] at h3;apply aj;simp[hC,PJ,PL];apply aj;simp[hC];apply aj;simp[hC];apply aj;simp[hC];apply aj;simp[hC];refine T.le (Le.trim [11,10,9,8,7,6,5,0,1] [0] 1 zX yA) ?_;simp;apply aU;simp[hC,jt,eS];refine TL.cw PV rfl rfl rfl rfl (bT.of rfl P2 (h2)) (TL.go' ah ?_);simp[hC];refine TL.cw PV rfl rfl rfl rfl (bT.of rfl P2 (gE)) (TL.go' ah ?_);simp[hC];refine bh ?_;simp;apply T.skip;simp;refine T.cut (fun s=>s=⟨[(7,I 8),(6,.av 0 0),(5,I i),(0,.az (bz l) l.length),(1,I deep)],[(0,⟨265,0,[I 8,.str ⟨#[]⟩,I e.op,I e.n,.str e.name,.az (e.args.flatMap bK) e.args.length,.str ⟨#[]⟩,.az [] 0,.az [] 0,.az (bz th) th.length,.az [] 0]⟩)],1⟩) ?_ ?_
    ·apply aj;simp[hC];apply T.block;refine T.aJ (fun m s=>s=⟨[(12,.int .i64 0),(7,I 8),(6,.av 0 0),(5,I i),(0,.az (bz l) l.length),(1,I deep)],[(0,⟨265,0,[I 8,.str ⟨#[]⟩,I e.op,I e.n,.str e.name,.az (e.args.flatMap bK) e.args.length,.str ⟨#[]⟩,.az [] 0,.az [] 0,.az (bz th) th.length,.az [] 0]⟩)],1⟩) (n:=0) ?_ ?_
     ·refine aa.trim [12,7,6,5,0,1] [0] 1 zX yA ?_;simp
     ·rintro m s rfl;apply aU;simp[hC];refine bh ?_;simp;apply T.exit;simp;refine aa.trim [7,6,5,0,1] [0] 1 zX yA ?_;simp
    rintro s rfl;apply aj;simp[hC];apply aj;simp[hC,wd];refine TL.cw PV rfl rfl rfl rfl (bT.of rfl P2 (h3)) (TL.go' ah ?_);simp[hC];refine bh ?_;simp;apply T.skip;simp;apply aW;simp[hC,wi];refine⟨l.length-(i+1),by omega,?_⟩;refine aa.trim [5,0,1] [] 0 zX yA ⟨i+1,rfl,by omega,?_⟩;simp
   | dI g nm al=>
    obtain⟨h1,h2,h3⟩:=hh;have hn:=jh nm h1.1 h1.2;have QN:=ql;simp only[gM,bK,ke,List.cons_append,List.nil_append] at PL QN;have WS:=fun (k:Nat) (a:Ar) (h:al[k]? = some a)=>aO (f:=nN) (n:=7) sH (m:=al) h;have Xj:=fun (k:Nat) (a:Ar) (h:al[k]? = some a)=>h3 a (List.mem_of_getElem? h);clear h3
    cases g with
    | false=>
     have e5:(if false=true then (4:Int) else 3)=3:=rfl;rw[e5] at PL;apply aj;simp[hC,PJ,PL];apply aj;simp[hC];apply aj;simp[hC];apply aj;simp[hC];apply aj;simp[hC];refine T.le (Le.trim [11,10,9,8,7,6,5,0,1] [0] 1 zX yA) ?_;simp;apply aU;simp[hC,eS];refine TL.cw PV rfl rfl rfl rfl (bT.of rfl P2 (hn)) (TL.go' ah ?_);simp[hC];refine TL.cw PV rfl rfl rfl rfl (bT.of rfl P2 (QN)) (TL.go' ah ?_);simp[hC];refine TL.cw PV rfl rfl rfl rfl (bT.of rfl P2 (gE)) (TL.go' ah ?_);simp[hC];refine bh ?_;simp;apply T.skip;simp;refine T.cut (fun s=>s=⟨[(7,I 3),(6,.av 0 0),(5,I i),(0,.az (bz l) l.length),(1,I deep)],[(0,⟨265,0,[I 3,.str nm,I 0,I 0,.str ⟨#[]⟩,.az [] 0,.str ⟨#[]⟩,.az [] 0,.az (al.flatMap nN) al.length,.az [] 0,.az [] 0]⟩)],1⟩) ?_ ?_
     ·apply aj;simp[hC];apply T.block;refine T.aJ (fun m s=>∃ k:Nat,m=al.length-k∧k≤al.length∧s=⟨[(12,I k),(7,I 3),(6,.av 0 0),(5,I i),(0,.az (bz l) l.length),(1,I deep)],[(0,⟨265,0,[I 3,.str nm,I 0,I 0,.str ⟨#[]⟩,.az [] 0,.str ⟨#[]⟩,.az [] 0,.az (al.flatMap nN) al.length,.az [] 0,.az [] 0]⟩)],1⟩) (n:=al.length) ?_ ?_
      ·refine aa.trim [12,7,6,5,0,1] [0] 1 zX yA ⟨0,by omega,by omega,?_⟩;simp
      ·rintro m s ⟨k,rfl,hk,rfl⟩;by_cases Qh:k<al.length
       ·obtain⟨a,Xa⟩:∃ a,al[k]? = some a:=⟨al[k],List.getElem?_eq_getElem Qh⟩;have Rj:=WS k a Xa;have Rp:=Xj k a Xa;have wk:=cE ((k:Int)+1) yA yA;apply aU;simp[hC,Qh];refine gQ ?_;simp;apply dZ
        cases a with
        | ua r=>
         have P9:=tY r Rp;obtain⟨rn,ri⟩:=r;obtain⟨q1,q2,hq⟩:∃ cs n,nV ri=.az cs n:=by cases ri<;>exact⟨_,_,rfl⟩
         simp only[j9,hq] at P9;simp only[nN,bK,j9,hq,List.cons_append,List.nil_append] at Rj;apply aj;simp[hC,Qh,Rj];apply aj;simp[hC];refine TL.cw PV rfl rfl rfl rfl (bT.of rfl P2 (P9)) (TL.go' ah ?_);simp[hC];refine TL.cw PV rfl rfl rfl rfl (bT.of rfl P2 (QN)) (TL.go' ah ?_);simp[hC];refine bh ?_;simp;apply T.skip;simp;apply aW;simp[hC,wk];refine⟨al.length-(k+1),by omega,?_⟩;refine aa.trim [12,7,6,5,0,1] [0] 1 zX yA ⟨k+1,rfl,by omega,?_⟩;simp
        | exp e=>
         simp only[okA,bU e] at Rp;simp only[nN,bU e,ke,List.cons_append,List.nil_append] at Rj;apply aj;simp[hC,Qh,Rj];apply aj;simp[hC];refine TL.cw PV rfl rfl rfl rfl (bT.of rfl P2 (gE)) (TL.go' ah ?_);simp[hC];refine TL.cw PV rfl rfl rfl rfl (bT.of rfl P2 (Rp)) (TL.go' ah ?_);simp[hC];refine bh ?_;simp;apply T.skip;simp;apply aW;simp[hC,wk];refine⟨al.length-(k+1),by omega,?_⟩;refine aa.trim [12,7,6,5,0,1] [0] 1 zX yA ⟨k+1,rfl,by omega,?_⟩;simp
       ·apply aU;simp[hC,Qh];refine bh ?_;simp;apply T.exit;simp;refine aa.trim [7,6,5,0,1] [0] 1 zX yA ?_;simp
     rintro s rfl;apply aj;simp[hC];apply aj;simp[hC];refine bh ?_;simp;apply T.skip;simp;apply aW;simp[hC,wi];refine⟨l.length-(i+1),by omega,?_⟩;refine aa.trim [5,0,1] [] 0 zX yA ⟨i+1,rfl,by omega,?_⟩;simp
    | true=>
     have e5:(if true=true then (4:Int) else 3)=4:=rfl;rw[e5] at PL;apply aj;simp[hC,PJ,PL];apply aj;simp[hC];apply aj;simp[hC];apply aj;simp[hC];apply aj;simp[hC];refine T.le (Le.trim [11,10,9,8,7,6,5,0,1] [0] 1 zX yA) ?_;simp;apply aU;simp[hC,eS];refine TL.cw PV rfl rfl rfl rfl (bT.of rfl P2 (hn)) (TL.go' ah ?_);simp[hC];refine TL.cw PV rfl rfl rfl rfl (bT.of rfl P2 (QN)) (TL.go' ah ?_);simp[hC];refine TL.cw PV rfl rfl rfl rfl (bT.of rfl P2 (gE)) (TL.go' ah ?_);simp[hC];refine bh ?_;simp;apply T.skip;simp;refine T.cut (fun s=>s=⟨[(7,I 4),(6,.av 0 0),(5,I i),(0,.az (bz l) l.length),(1,I deep)],[(0,⟨265,0,[I 4,.str nm,I 0,I 0,.str ⟨#[]⟩,.az [] 0,.str ⟨#[]⟩,.az [] 0,.az (al.flatMap nN) al.length,.az [] 0,.az [] 0]⟩)],1⟩) ?_ ?_
     ·apply aj;simp[hC];apply T.block;refine T.aJ (fun m s=>∃ k:Nat,m=al.length-k∧k≤al.length∧s=⟨[(12,I k),(7,I 4),(6,.av 0 0),(5,I i),(0,.az (bz l) l.length),(1,I deep)],[(0,⟨265,0,[I 4,.str nm,I 0,I 0,.str ⟨#[]⟩,.az [] 0,.str ⟨#[]⟩,.az [] 0,.az (al.flatMap nN) al.length,.az [] 0,.az [] 0]⟩)],1⟩) (n:=al.length) ?_ ?_
      ·refine aa.trim [12,7,6,5,0,1] [0] 1 zX yA ⟨0,by omega,by omega,?_⟩;simp
      ·rintro m s ⟨k,rfl,hk,rfl⟩;by_cases Qh:k<al.length
       ·obtain⟨a,Xa⟩:∃ a,al[k]? = some a:=⟨al[k],List.getElem?_eq_getElem Qh⟩;have Rj:=WS k a Xa;have Rp:=Xj k a Xa;have wk:=cE ((k:Int)+1) yA yA;apply aU;simp[hC,Qh];refine gQ ?_;simp;apply dZ
        cases a with
        | ua r=>
         have P9:=tY r Rp;obtain⟨rn,ri⟩:=r;obtain⟨q1,q2,hq⟩:∃ cs n,nV ri=.az cs n:=by cases ri<;>exact⟨_,_,rfl⟩
         simp only[j9,hq] at P9;simp only[nN,bK,j9,hq,List.cons_append,List.nil_append] at Rj;apply aj;simp[hC,Qh,Rj];apply aj;simp[hC];refine TL.cw PV rfl rfl rfl rfl (bT.of rfl P2 (P9)) (TL.go' ah ?_);simp[hC];refine TL.cw PV rfl rfl rfl rfl (bT.of rfl P2 (QN)) (TL.go' ah ?_);simp[hC];refine bh ?_;simp;apply T.skip;simp;apply aW;simp[hC,wk];refine⟨al.length-(k+1),by omega,?_⟩;refine aa.trim [12,7,6,5,0,1] [0] 1 zX yA ⟨k+1,rfl,by omega,?_⟩;simp
        | exp e=>
         simp only[okA,bU e] at Rp;simp only[nN,bU e,ke,List.cons_append,List.nil_append] at Rj;apply aj;simp[hC,Qh,Rj];apply aj;simp[hC];refine TL.cw PV rfl rfl rfl rfl (bT.of rfl P2 (gE)) (TL.go' ah ?_);simp[hC];refine TL.cw PV rfl rfl rfl rfl (bT.of rfl P2 (Rp)) (TL.go' ah ?_);simp[hC];refine bh ?_;simp;apply T.skip;simp;apply aW;simp[hC,wk];refine⟨al.length-(k+1),by omega,?_⟩;refine aa.trim [12,7,6,5,0,1] [0] 1 zX yA ⟨k+1,rfl,by omega,?_⟩;simp
       ·apply aU;simp[hC,Qh];refine bh ?_;simp;apply T.exit;simp;refine aa.trim [7,6,5,0,1] [0] 1 zX yA ?_;simp
     rintro s rfl;apply aj;simp[hC];apply aj;simp[hC];refine bh ?_;simp;apply T.skip;simp;apply aW;simp[hC,wi];refine⟨l.length-(i+1),by omega,?_⟩;refine aa.trim [5,0,1] [] 0 zX yA ⟨i+1,rfl,by omega,?_⟩;simp
  ·apply aU;simp[hC,PJ];refine bh ?_;simp;apply T.exit;simp;apply aj;simp[hC];apply T.ret;apply aa.here;simp[Tryz.results201]
end Go.Proofs.YtnecpnjdonibmaaGreat
