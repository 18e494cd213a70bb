/- Name; Lex accepts what is right for it. -/
import Derived.Test.YtnecpnjdonibmaaGreatZ22
namespace Go.Proofs.YtnecpnjdonibmaaGreat
open Go.Can Go.aP
theorem Ni (s:ByteArray)(i:Nat):s[i]? = (bs s)[i]?:=by
 by_cases h:i<s.size
 ·rw[getElem?_pos s i h,List.getElem?_eq_getElem (by simpa [bs] using h)];simp[bs];rfl
 ·rw[getElem?_neg s i h,List.getElem?_eq_none (by simpa [bs] using h)]
theorem kE (s:ByteArray):(bs s).length=s.size:=by simp[bs]
theorem jh (s:ByteArray)(h:db s)(hr:bs s∉qe):ae Tryz.prog 200 [.str s] (.bool true):=by
 obtain⟨⟨c0,t0,hc0,V9⟩,h1,h2⟩:=h;have PZ:=kE s;have Sh:1≤s.size:=by rw[← PZ,hc0];simp
 refine ae.aM ah Tryz.func200 rfl PH (by simp[Tryz.ntmps200]) rfl fun C hC PN=>?_;rw[Tryz.ntmps200] at hC;apply aj;simp[hC];apply aU;simp[hC];apply T.block;refine T.aJ (fun m st=>∃ i:Nat,m=s.size-i∧i≤s.size∧st=⟨[(3,I i),(0,.str s)],[],0⟩) (n:=s.size) ?_ ?_
 ·refine aa.le (Le.env [3,0]) (aa.here ⟨0,by omega,by omega,?_⟩);simp
 ·rintro n st ⟨i,rfl,hi,rfl⟩;by_cases PJ:i<s.size
  ·obtain⟨c,hc⟩:∃ c,(bs s)[i]? = some c:=⟨(bs s)[i],List.getElem?_eq_getElem yA⟩;have hg:s[i]? = some c:=by rw[Ni];exact hc
   have Z1:eW c=true:=List.all_eq_true.1 h1 c (List.mem_of_getElem? hc);have hw:=cE ((i:Int)+1) yA yA;apply aU;simp[hC,PJ];refine gQ ?_;simp;apply dZ;refine T.cut (fun st=>st=⟨[(25,.bool false),(3,I i),(0,.str s)],[],0⟩) ?_ ?_
   ·have TN:s[i]=c:=by
     have:=hg;rw[getElem?_pos s i PJ] at this
     simpa using this
    cases PQ:isLet c with
    | true=>
     have PX:=kR c;rw[PQ] at PX;apply aW;simp[hC,PJ,TN];refine dQ P2 (PX) ?_;simp[hC];refine aa.le (Le.env [25,3,0]) (aa.here ?_);simp
    | false=>
     have PX:=kR c;rw[PQ] at PX;have hdg:cQ c=true:=by simpa [eW,PQ] using Z1
     have WO:=k9 c;rw[hdg] at WO;have Wd:¬ i=0:=by
      intro h;subst h;rw[hc0] at hc;simp only[List.getElem?_cons_zero,Option.some.injEq] at hc;subst hc;rw[V9] at PQ;cases PQ
     apply aW;simp[hC,PJ,TN];refine dQ P2 (PX) ?_;simp[hC,Wd,PJ,TN];refine TL.cw PV rfl rfl rfl rfl (bT.of rfl P2 (WO)) (TL.go' ah ?_);simp[hC];refine aa.le (Le.env [25,3,0]) (aa.here ?_);simp
   ·rintro st rfl;refine bh ?_;simp;apply T.skip;simp;apply aW;simp[hC,hw];refine⟨s.size-(i+1),by omega,?_⟩;refine aa.le (Le.env [3,0]) (aa.here ⟨i+1,rfl,by omega,?_⟩);simp
  ·apply aU;simp[hC,PJ];refine bh ?_;simp;apply T.exit;simp;have g1:(1:Int)≤s.size:=by omega
   have g2:(s.size:Int)≤16:=by omega
   have RT:=qI s;simp only[hr,decide_false] at RT;apply aj;simp[hC,g1,g2];refine TL.cw PV rfl rfl rfl rfl (bT.of rfl P2 (RT)) (TL.go' ah ?_);simp[hC];apply T.ret;apply aa.here;simp[Tryz.results200]
theorem F5 {p:UInt8→Bool}:∀ {L:List UInt8} {j:Nat},j<(L.takeWhile p).length→∃ c,L[j]? = some c∧p c=true
 | [],j,h=>by simp at h
 | a::r,j,h=>by
  cases ha:p a with
  | false=>rw[List.takeWhile_cons,ha] at h;simp at h
  | true=>
   cases j with
   | zero=>exact⟨a,rfl,ha⟩
   | succ j=>
    rw[List.takeWhile_cons,ha] at h;simp only[if_true,List.length_cons] at h;obtain⟨c,h1,h2⟩:=F5 (p:=p) (L:=r) (j:=j) yA;exact⟨c,by simpa using h1,h2⟩
theorem Bb {p:UInt8→Bool}:∀ {L:List UInt8} {c:UInt8},L[(L.takeWhile p).length]? = some c→p c=false
 | [],c,h=>by simp at h
 | a::r,c,h=>by
  cases ha:p a with
  | false=>
   rw[List.takeWhile_cons,ha] at h;simp at h;subst h;exact ha
  | true=>
   rw[List.takeWhile_cons,ha] at h;simp only[if_true,List.length_cons,List.getElem?_cons_succ] at h;exact Bb (L:=r) h
theorem yV {p:UInt8→Bool}:∀ L:List UInt8,(L.takeWhile p).length≤L.length∧L.dropWhile p=L.drop (L.takeWhile p).length∧L.take (L.takeWhile p).length=L.takeWhile p
 | []=>⟨Nat.le_refl _,rfl,rfl⟩
 | a::r=>by
  cases ha:p a with
  | false=>simp[ha]
  | true=>
   obtain⟨h1,h2,h3⟩:=yV (p:=p) r;simp[ha,h2,h3];exact h1
theorem Lx.ncm {l:List UInt8}{n:Nat}(h:Lx l n):∀ r,l=47::r→r.head?≠some 47:=by
 rintro r rfl;obtain⟨m,_,h1 | h1 | h1⟩:=Lx.inv h P1
 ·exact absurd h1.1 P1
 ·exact absurd h1.2.1 P1
 ·exact h1.2.2.1 rfl
theorem LR:∀ L:List UInt8,r9 L≤L.length
 | []=>Nat.le_refl _
 | [a]=>by
  simp only[r9];split<;>simp
 | a::b::r=>by
  simp only[r9,List.length_cons];split
  ·omega
  ·split<;>omega
def LexG (r:CV):Prop:=∃ (cs:List CV) (n:Nat) (e:Nat),r=.dH [.az cs n,I e,.int .i64 0]
def kL (cs:List CV):Ob:=⟨234,4,cs⟩
def J66 (l:List UInt8)(n:Nat)(s:St):Prop:=∃ (a:Nat) (cs:List CV) (k m:Nat),n=l.length-a∧a≤l.length∧k+m≤4000∧Lx (l.drop a) m∧(∀ c,(l.drop a).head? = some c→ia c=false)∧cs.length=k*4∧trees cs=true∧
 s=⟨[(6,I a),(5,.bj 0 0 k),(0,dm l)],[(0,kL cs)],1⟩
set_option maxHeartbeats 4000000 in
theorem MA (l:List UInt8)(hl:l.length≤262144)(hx:Lx l 4000):lU Tryz.prog 158 [dm l] LexG:=by
 refine lU.iV ah Tryz.func158 rfl PH (by simp[Tryz.ntmps158]) fun C hC PN=>?_;rw[Tryz.ntmps158] at hC;apply aj;simp[hC];have Q0:¬ (262144:Int)<l.length:=by omega
 apply aU;simp[hC,dm,Q0];refine bh ?_;simp;apply T.skip;simp;apply aj;simp[hC];have Wt:=CC l 0 (Nat.zero_le _) yA (fun r hr=>by
  have:=hx.skip;simp only[List.drop_zero,Nat.zero_add] at hr this;exact Lx.ncm this r hr)
 simp only[List.drop_zero,Nat.zero_add] at Wt;have Za:=hx.skip;have Wq:∀ c,(l.drop (pX l)).head? = some c→ia c=false:=fun c hc=>y7 hc;have ZT:pX l≤l.length:=by
  unfold pX;exact (yV (p:=ia) l).1
 generalize pX l=a0 at Wt Za Wq ZT;apply aj;simp[hC];refine dQ P2 (Wt) ?_;simp[hC];apply T.block;refine T.aJ (J66 l) (n:=l.length-a0) ?_ ?_
 ·refine aa.le (Le.own 5 234 4 rfl) ?_;simp;refine aa.trim [6,5,0] [0] 1 zX yA ⟨a0,[],0,4000,rfl,ZT,by omega,Za,Wq,rfl,rfl,?_⟩;simp[dm,kL]
 ·rintro n st ⟨a,cs,k,m,rfl,RC,Tz,hxa,hsp,PX,RQ,rfl⟩;apply dZ;by_cases WI:a=l.length
  ·apply aU;simp[hC,dm,WI];refine fx ?_;simp;have hb:(k+1)*40≤140737488355328:=by omega
   have PZ:(kL cs).sz=4:=rfl;have Qq:(kL cs).elem=234:=rfl;have SZ:(kL cs).cells.length=k*4:=PX;apply aj;simp[hC,hb,PZ,Qq,SZ,aX];apply T.ret;have htr2:trees ((kL cs).cells++[CV.int .i64 5,.str ⟨#[]⟩,.int .i64 0,.int .i64 l.length])=true:=by rw[bF];simp only[kL,RQ];rfl
   refine aa.le (Le.dz (o:=2) rfl htr2) ?_;simp[cB];refine aa.here ⟨_,rfl,rfl,_,_,_,rfl⟩
  ·have PQ:a<l.length:=by omega
   have P3:¬ (a:Int)=l.length:=by omega
   obtain⟨c,hc⟩:∃ c,l[a]? = some c:=⟨l[a],List.getElem?_eq_getElem PQ⟩;have PL:=kD hc;have hd:=gH hc;rw[hd] at hxa hsp;have Ql:=hsp c rfl;obtain⟨m',rfl,S0⟩:=Lx.inv hxa Ql;rw[← hd] at S0;apply aU;simp[hC,dm,WI];refine bh ?_;simp;apply T.skip;simp;apply aj;simp[hC];apply aj;simp[hC];refine T.le (Le.trim [8,7,6,5,0] [0,1] 2 TG yA) ?_;simp;refine T.cut (fun s=>∃ (kind num:Int) (e:Nat),Lx (l.drop e) m'∧a<e∧e≤l.length∧s=⟨[(8,I e),(7,.av 1 0),(6,I a),(5,.bj 0 0 k),(0,dm l)],[(0,kL cs),(1,⟨234,0,[.int .i64 kind,.str ⟨#[]⟩,.int .i64 num,I a]⟩)],2⟩) ?_ ?_
   ·apply T.block;apply aj;simp[hC,PQ,PL];refine dQ P2 (kR c) ?_;simp[hC];refine T.bb rfl (fun h=>?_) (fun h=>?_)
    ·have h1:isLet c=true:=by simpa using h
     obtain⟨_,hw16,US⟩:isLet c=true∧(((l.drop a).takeWhile eW).length≤16∨(l.drop a).takeWhile eW∈qe)∧Lx ((l.drop a).dropWhile eW) m':=by
      rcases S0 with h | h | h
      ·exact h
      ·rw[h1] at h;simp at h
      ·rw[h1] at h;simp at h
     obtain⟨t1,t2,t3⟩:=yV (p:=eW) (l.drop a);rw[t2,List.drop_drop] at US;have Zc:0<((l.drop a).takeWhile eW).length:=by
      rw[hd,List.takeWhile_cons];simp[eW,h1]
     have Xz:=@F5 eW (l.drop a);have Vm:=@Bb eW (l.drop a);generalize hW:(l.drop a).takeWhile eW=W at *;have hWl:a+W.length≤l.length:=by simp at t1;omega
     refine T.cut (fun s=>s=⟨[(8,I ((a+W.length:Nat))),(7,.av 1 0),(6,I a),(5,.bj 0 0 k),(0,dm l)],[(0,kL cs),(1,⟨234,0,[.int .i64 0,.str ⟨#[]⟩,.int .i64 0,I a]⟩)],2⟩) ?_ ?_
     ·apply T.block;refine T.aJ (fun n s=>∃ j:Nat,n=W.length-j∧j≤W.length∧s=⟨[(8,I ((a+j:Nat))),(7,.av 1 0),(6,I a),(5,.bj 0 0 k),(0,dm l)],[(0,kL cs),(1,⟨234,0,[.int .i64 0,.str ⟨#[]⟩,.int .i64 0,I a]⟩)],2⟩) (n:=W.length) ?_ ?_
      ·refine aa.trim [8,7,6,5,0] [0,1] 2 TG yA ⟨0,by omega,by omega,?_⟩;simp[dm]
      ·rintro n s ⟨j,rfl,P7,rfl⟩;obtain⟨e,he⟩:∃ e,a+j=e:=⟨_,rfl⟩;rw[he];by_cases hj:j<W.length
       ·obtain⟨c2,RE,ir⟩:=Xz hj;rw[List.getElem?_drop,he] at RE;have QI:=kD RE;have Qq:e<l.length:=(List.getElem?_eq_some_iff.1 RE).1;have hw:=cE ((e:Int)+1) yA yA;have SY:=kR c2;have Sn:=k9 c2
        cases T7:isLet c2 with
        | true=>
         rw[T7] at SY;apply aU;simp[hC,dm,Qq,QI];refine TL.cw PV rfl rfl rfl rfl (bT.of rfl P2 (SY)) (TL.go' ah ?_);simp[hC];refine gQ ?_;simp;apply T.block;apply aW;simp[hC,hw];refine⟨W.length-(j+1),by omega,?_⟩;refine aa.trim [8,7,6,5,0] [0,1] 2 TG yA ⟨j+1,rfl,by omega,?_⟩;simp;omega
        | false=>
         rw[T7] at SY;have hdg2:cQ c2=true:=by simpa [eW,T7] using ir
         rw[hdg2] at Sn;apply aU;simp[hC,dm,Qq,QI];refine TL.cw PV rfl rfl rfl rfl (bT.of rfl P2 (SY)) (TL.go' ah ?_);simp[hC,Qq,QI];refine TL.cw PV rfl rfl rfl rfl (bT.of rfl P2 (Sn)) (TL.go' ah ?_);simp[hC];refine gQ ?_;simp;apply T.block;apply aW;simp[hC,hw];refine⟨W.length-(j+1),by omega,?_⟩;refine aa.trim [8,7,6,5,0] [0,1] 2 TG yA ⟨j+1,rfl,by omega,?_⟩;simp;omega
       ·have QV:j=W.length:=by omega
        by_cases Qq:e<l.length
        ·obtain⟨c2,RE⟩:∃ c,l[e]? = some c:=⟨l[e],List.getElem?_eq_getElem Qq⟩;have ir:eW c2=false:=Vm (by rw[List.getElem?_drop,← QV,he];exact RE);have QI:=kD RE;have SY:=kR c2;have Sn:=k9 c2;have hp3:isLet c2=false∧cQ c2=false:=by simpa [eW] using ir
         rw[hp3.1] at SY;rw[hp3.2] at Sn;apply aU;simp[hC,dm,Qq,QI];refine TL.cw PV rfl rfl rfl rfl (bT.of rfl P2 (SY)) (TL.go' ah ?_);simp[hC,Qq,QI];refine TL.cw PV rfl rfl rfl rfl (bT.of rfl P2 (Sn)) (TL.go' ah ?_);simp[hC];refine bh ?_;simp;apply T.exit;simp;refine aa.trim [8,7,6,5,0] [0,1] 2 TG yA ?_;simp;omega
        ·apply aU;simp[hC,dm,Qq];refine bh ?_;simp;apply T.exit;simp;refine aa.trim [8,7,6,5,0] [0,1] 2 TG yA ?_;simp;omega
     ·rintro s rfl;obtain⟨e,he⟩:∃ e,a+W.length=e:=⟨_,rfl⟩;rw[he] at US ⊢;have k1:a≤e:=by omega
      have k2:e≤l.length:=by omega
      have k3:e-a=W.length:=by omega
      have QT:List.take W.length (List.drop a (l.map fun x=>CV.int .u8 (x.toNat:Int)))=W.map fun x=>CV.int .u8 (x.toNat:Int):=by
       rw[← List.map_drop,← List.map_take,t3]
      have UF:min W.length (l.length-a)=W.length:=by omega
      have hbW:=mJ W;have hWe:bs ⟨W.toArray⟩=W:=bs_mk W;apply aj;simp[hC];have RT:=qI ⟨W.toArray⟩;rw[hWe] at RT;have wk:IntKind.i64.wrap ((e:Int)-a)=(W.length:Int):=by rw[cE _ yA yA];omega
      refine T.seq (T.AR ah ?_);simp[hC,dm,k1,k2,QT,hbW,k3];refine dQ P2 (RT) ?_;simp;refine T.bb rfl (fun h=>?_) (fun h=>?_)
      ·apply aW;simp[hC];refine aa.trim [8,7,6,5,0] [0,1] 2 TG yA ⟨3,0,e,US,by omega,k2,?_⟩;simp
      ·have hnr:W∉qe:=by simpa using h
       have h16:W.length≤16:=hw16.resolve_right hnr;have h16':¬ (16:Int)<W.length:=by omega
       apply aj;simp[hC,wk,h16'];refine bh ?_;simp;apply T.skip;simp;refine aa.trim [8,7,6,5,0] [0,1] 2 TG yA ⟨1,0,e,US,by omega,k2,?_⟩;simp
    ·have h1:isLet c=false:=by simpa using h
     refine T.le (Le.trim [8,7,6,5,0] [0,1] 2 TG yA) ?_;simp;apply aj;simp[hC,PQ,PL];refine dQ P2 (k9 c) ?_;simp[hC];refine T.bb rfl (fun h=>?_) (fun h=>?_)
     ·have h2:cQ c=true:=by simpa using h
      obtain⟨_,_,hv63,US⟩:isLet c=false∧cQ c=true∧kA ((l.drop a).takeWhile cQ)<9223372036854775808∧Lx ((l.drop a).dropWhile cQ) m':=by
       rcases S0 with h | h | h
       ·rw[h1] at h;simp at h
       ·exact h
       ·rw[h2] at h;simp at h
      obtain⟨t1,t2,t3⟩:=yV (p:=cQ) (l.drop a);rw[t2,List.drop_drop] at US;have Zc:0<((l.drop a).takeWhile cQ).length:=by
       rw[hd,List.takeWhile_cons];simp[h2]
      have Qs:((l.drop a).takeWhile cQ).all cQ=true:=List.all_takeWhile;have Xz:=@F5 cQ (l.drop a);have Vm:=@Bb cQ (l.drop a);generalize hW:(l.drop a).takeWhile cQ=W at *;have hWl:a+W.length≤l.length:=by simp at t1;omega
      refine T.cut (fun s=>s=⟨[(8,I ((a+W.length:Nat))),(7,.av 1 0),(6,I a),(5,.bj 0 0 k),(0,dm l)],[(0,kL cs),(1,⟨234,0,[.int .i64 0,.str ⟨#[]⟩,.int .i64 0,I a]⟩)],2⟩) ?_ ?_
      ·apply T.block;refine T.aJ (fun n s=>∃ j:Nat,n=W.length-j∧j≤W.length∧s=⟨[(8,I ((a+j:Nat))),(7,.av 1 0),(6,I a),(5,.bj 0 0 k),(0,dm l)],[(0,kL cs),(1,⟨234,0,[.int .i64 0,.str ⟨#[]⟩,.int .i64 0,I a]⟩)],2⟩) (n:=W.length) ?_ ?_
       ·refine aa.trim [8,7,6,5,0] [0,1] 2 TG yA ⟨0,by omega,by omega,?_⟩;simp[dm]
       ·rintro n s ⟨j,rfl,P7,rfl⟩;obtain⟨e,he⟩:∃ e,a+j=e:=⟨_,rfl⟩;rw[he];by_cases hj:j<W.length
        ·obtain⟨c2,RE,ir⟩:=Xz hj;rw[List.getElem?_drop,he] at RE;have QI:=kD RE;have Qq:e<l.length:=(List.getElem?_eq_some_iff.1 RE).1;have hw:=cE ((e:Int)+1) yA yA;have Sn:=k9 c2;rw[ir] at Sn;apply aU;simp[hC,dm,Qq,QI];refine TL.cw PV rfl rfl rfl rfl (bT.of rfl P2 (Sn)) (TL.go' ah ?_);simp[hC];refine gQ ?_;simp;apply T.block;apply aW;simp[hC,hw];refine⟨W.length-(j+1),by omega,?_⟩;refine aa.trim [8,7,6,5,0] [0,1] 2 TG yA ⟨j+1,rfl,by omega,?_⟩;simp;omega
        ·have QV:j=W.length:=by omega
         by_cases Qq:e<l.length
         ·obtain⟨c2,RE⟩:∃ c,l[e]? = some c:=⟨l[e],List.getElem?_eq_getElem Qq⟩;have ir:cQ c2=false:=Vm (by rw[List.getElem?_drop,← QV,he];exact RE);have QI:=kD RE;have Sn:=k9 c2;rw[ir] at Sn;apply aU;simp[hC,dm,Qq,QI];refine TL.cw PV rfl rfl rfl rfl (bT.of rfl P2 (Sn)) (TL.go' ah ?_);simp[hC];refine bh ?_;simp;apply T.exit;simp;refine aa.trim [8,7,6,5,0] [0,1] 2 TG yA ?_;simp;omega
         ·apply aU;simp[hC,dm,Qq];refine bh ?_;simp;apply T.exit;simp;refine aa.trim [8,7,6,5,0] [0,1] 2 TG yA ?_;simp;omega
      ·rintro s rfl;obtain⟨e,he⟩:∃ e,a+W.length=e:=⟨_,rfl⟩;rw[he] at US ⊢;have k1:a≤e:=by omega
       have k2:e≤l.length:=by omega
       have k3:e-a=W.length:=by omega
       have QT:List.take W.length (List.drop a (l.map fun x=>CV.int .u8 (x.toNat:Int)))=W.map fun x=>CV.int .u8 (x.toNat:Int):=by
        rw[← List.map_drop,← List.map_take,t3]
       have hcn:=vf W yA Qs hv63;have W8:¬ ((kA W:Int)<0):=by omega
       apply aj;simp[hC,dm,k1,k2,QT,k3];simp only[dm] at hcn;refine dQ P2 (hcn) ?_;simp[hC];apply aj;simp[hC,W8];refine bh ?_;simp;apply T.skip;simp;refine aa.trim [8,7,6,5,0] [0,1] 2 TG yA ⟨2,kA W,e,US,by omega,k2,?_⟩;simp
     ·have h2:cQ c=false:=by simpa using h
      obtain⟨Wq,US⟩:0<r9 (l.drop a)∧Lx ((l.drop a).drop (r9 (l.drop a))) m':=by
       rcases S0 with h | h | h
       ·rw[h1] at h;simp at h
       ·rw[h2] at h;simp at h
       ·exact⟨h.2.2.2.1,h.2.2.2.2⟩
      have YK:=Ji l a PQ yA;have Zq:a+r9 (l.drop a)≤l.length:=by
       have h2:=LR (l.drop a);rw[List.length_drop] at h2;omega
      rw[List.drop_drop] at US;generalize r9 (l.drop a)=g at YK Wq US Zq;have hwg:=cE ((a:Int)+g) yA yA;have Wy:¬ (a:Int)+g=a:=by omega
      simp only[dm] at YK;refine T.le (Le.trim [8,7,6,5,0] [0,1] 2 TG yA) ?_;simp;apply aj;simp[hC];refine dQ P2 (YK) ?_;simp[hC,hwg];apply aj;simp[hC];apply aj;simp[hC];refine T.bb rfl (fun h=>?_) (fun h=>?_)
      ·simp at h;omega
      apply T.skip;simp;refine aa.trim [8,7,6,5,0] [0,1] 2 TG yA ⟨4,0,a+g,US,by omega,Zq,?_⟩;simp[dm]
   ·rintro s ⟨kind,num,e,hxe,hae,Qq,rfl⟩;have k1:a≤e:=by omega
    have k3:e-a≤l.length-a:=by omega
    have hk4:¬ (k:Int)=4000:=by omega
    apply aU;simp[hC];refine T.bb rfl (fun h=>?_) (fun h=>?_)
    ·simp at h;omega
    apply T.skip;simp;have QT:List.take (e-a) (List.drop a (l.map fun x=>CV.int .u8 (x.toNat:Int)))=((l.drop a).take (e-a)).map fun x=>CV.int .u8 (x.toNat:Int):=by
     rw[← List.map_drop,← List.map_take]
    have UF:min (e-a) (l.length-a)=e-a:=by omega
    have hbW:=mJ ((l.drop a).take (e-a));have hWl:((l.drop a).take (e-a)).length=e-a:=by simp;omega
    generalize (l.drop a).take (e-a)=W at QT hbW hWl;have SN:=CC l e Qq yA (fun r hr=>by
     have:=hxe.skip;rw[List.drop_drop] at this;exact Lx.ncm this r hr)
    refine T.seq (T.AR ah ?_);simp[hC,dm,k1,Qq,QT,hbW,hWl];have hb:(k+1)*40≤140737488355328:=by omega
    have PZ:(kL cs).sz=4:=rfl;have Ye:(kL cs).elem=234:=rfl;have SZ:(kL cs).cells.length=k*4:=PX;apply aW;simp[hC,hb,PZ,Ye,SZ,aX];simp only[dm] at SN;have Sw:=hxe.skip;rw[List.drop_drop] at Sw;have Zo:∀ c,(l.drop (e+pX (l.drop e))).head? = some c→ia c=false:=fun c hc=>by
     rw[← List.drop_drop] at hc;exact y7 hc
    have ZS:e+pX (l.drop e)≤l.length:=by
     have:=(yV (p:=ia) (l.drop e)).1;rw[List.length_drop] at this;unfold pX;omega
    obtain⟨a2,ha2⟩:∃ a2,e+pX (l.drop e)=a2:=⟨_,rfl⟩;rw[ha2] at SN Sw Zo ZS;have hea:e≤a2:=by omega
    apply aW;simp[hC];refine dQ P2 (SN) ?_;simp[hC];refine⟨l.length-a2,by omega,?_⟩;have Vl:trees ((kL cs).cells++[CV.int .i64 kind,.str ⟨W.toArray⟩,.int .i64 num,I a])=true:=by rw[bF];simp only[kL,RQ];rfl
    refine aa.le (Le.trim [6,5,0] [3] 4 (by simp[-List.all_append,af Vl]) yA) ?_;simp;refine aa.le (Le.nB 3 0 rfl rfl yA zX zX (by simp[-List.all_append,bf Vl])) ?_;simp[-List.map_append,aV Vl];refine aa.trim [6,5,0] [0] 1 (by simp[-List.all_append,af Vl]) yA ⟨a2,(kL cs).cells++[CV.int .i64 kind,.str ⟨W.toArray⟩,.int .i64 num,I a],k+1,m',rfl,ZS,by omega,Sw,Zo,?_,Vl,?_⟩
    ·simp[SZ];omega
    ·simp[dm,kL]
end Go.Proofs.YtnecpnjdonibmaaGreat
