/- Name; Lex accepts what is right for it. -/
import Derived.Test.YtlkmbdfhdknlgaaGreatDoorZ18
import Derived.Maps.Keyed
import Derived.WideKeyPair
import Derived.Laws.StructEq
namespace Go.Proofs.YtlkmbdfhdknlgaaGreatDoor
open Go.Can Go.aN
theorem MN (s:ByteArray)(i:Nat):s[i]? = (bs s)[i]?:=by
 by_cases h:i<s.size
 ·rw[getElem?_pos s i h,List.getElem?_eq_getElem (by simpa [bs] using h)];simp[bs];rfl
 ·rw[getElem?_neg s i h,List.getElem?_eq_none (by simpa [bs] using h)]
theorem lp (s:ByteArray):(bs s).length=s.size:=by simp[bs]
theorem js (s:ByteArray)(h:dh s)(hr:bs s∉rI):ae Tryz.prog 81 [.str s] (.bool true):=by
 obtain⟨⟨c0,t0,hc0,SH⟩,h1,h2⟩:=h;have Oh:=lp s;have Q9:1≤s.size:=by rw[← Oh,hc0];simp
 refine ae.aH af Tryz.func81 rfl N4 (by simp[Tryz.ntmps81]) rfl fun C hC N8=>?_;rw[Tryz.ntmps81] at hC;apply ai;simp[hC];apply aL;simp[hC];apply T.block;refine T.aI (fun m st=>∃ i:Nat,m=s.size-i∧i≤s.size∧st=⟨[(3,I i),(0,.str s)],[],0⟩) (n:=s.size) ?_ ?_
 ·refine aa.le (Le.env [3,0]) (aa.here ⟨0,by omega,by omega,?_⟩);simp
 ·rintro n st ⟨i,rfl,hi,rfl⟩;by_cases N6:i<s.size
  ·obtain⟨c,hc⟩:∃ c,(bs s)[i]? = some c:=⟨(bs s)[i],List.getElem?_eq_getElem yA⟩;have hg:s[i]? = some c:=by rw[MN];exact hc
   have hid:fB c=true:=List.all_eq_true.1 h1 c (List.mem_of_getElem? hc);have hw:=cf ((i:Int)+1) yA yA;apply aL;simp[hC,N6];refine fh ?_;simp;apply eG;refine T.cut (fun st=>st=⟨[(25,.bool false),(3,I i),(0,.str s)],[],0⟩) ?_ ?_
   ·have UU:s[i]=c:=by
     have:=hg;rw[getElem?_pos s i N6] at this
     simpa using this
    cases Oa:isLet c with
    | true=>
     have Og:=lK c;rw[Oa] at Og;apply aY;simp[hC,N6,UU];refine dc Od (Og) ?_;simp[hC];refine aa.le (Le.env [25,3,0]) (aa.here ?_);simp
    | false=>
     have Og:=lK c;rw[Oa] at Og;have hdg:cY c=true:=by simpa [fB,Oa] using hid
     have TO:=lU c;rw[hdg] at TO;have RL:¬ i=0:=by
      intro h;subst h;rw[hc0] at hc;simp only[List.getElem?_cons_zero,Option.some.injEq] at hc;subst hc;rw[SH] at Oa;cases Oa
     apply aY;simp[hC,N6,UU];refine dc Od (Og) ?_;simp[hC,RL,N6,UU];refine TL.bY Oc rfl rfl rfl rfl (bH.of rfl Od (TO)) (TL.go' af ?_);simp[hC];refine aa.le (Le.env [25,3,0]) (aa.here ?_);simp
   ·rintro st rfl;refine aX ?_;simp;apply T.skip;simp;apply aY;simp[hC,hw];refine⟨s.size-(i+1),by omega,?_⟩;refine aa.le (Le.env [3,0]) (aa.here ⟨i+1,rfl,by omega,?_⟩);simp
  ·apply aL;simp[hC,N6];refine aX ?_;simp;apply T.exit;simp;have g1:(1:Int)≤s.size:=by omega
   have g2:(s.size:Int)≤16:=by omega
   have Qk:=sC s;simp only[hr,decide_false] at Qk;apply ai;simp[hC,g1,g2];refine TL.bY Oc rfl rfl rfl rfl (bH.of rfl Od (Qk)) (TL.go' af ?_);simp[hC];apply T.ret;apply aa.here;simp[Tryz.results81]
theorem Gd {p:UInt8→Bool}:∀ {L:List UInt8} {j:Nat},j<(L.takeWhile p).length→∃ c,L[j]? = some c∧p c=true
 | [],j,h=>by simp at h
 | a::r,j,h=>by
  cases ha:p a with
  | false=>rw[List.takeWhile_cons,ha] at h;simp at h
  | true=>
   cases j with
   | zero=>exact⟨a,rfl,ha⟩
   | succ j=>
    rw[List.takeWhile_cons,ha] at h;simp only[if_true,List.length_cons] at h;obtain⟨c,h1,h2⟩:=Gd (p:=p) (L:=r) (j:=j) yA;exact⟨c,by simpa using h1,h2⟩
theorem BS {p:UInt8→Bool}:∀ {L:List UInt8} {c:UInt8},L[(L.takeWhile p).length]? = some c→p c=false
 | [],c,h=>by simp at h
 | a::r,c,h=>by
  cases ha:p a with
  | false=>
   rw[List.takeWhile_cons,ha] at h;simp at h;subst h;exact ha
  | true=>
   rw[List.takeWhile_cons,ha] at h;simp only[if_true,List.length_cons,List.getElem?_cons_succ] at h;exact BS (L:=r) h
theorem zu {p:UInt8→Bool}:∀ L:List UInt8,(L.takeWhile p).length≤L.length∧L.dropWhile p=L.drop (L.takeWhile p).length∧L.take (L.takeWhile p).length=L.takeWhile p
 | []=>⟨Nat.le_refl _,rfl,rfl⟩
 | a::r=>by
  cases ha:p a with
  | false=>simp[ha]
  | true=>
   obtain⟨h1,h2,h3⟩:=zu (p:=p) r;simp[ha,h2,h3];exact h1
theorem Lx.ncm {l:List UInt8}{n:Nat}(h:Lx l n):∀ r,l=47::r→r.head?≠some 47:=by
 rintro r rfl;obtain⟨m,_,h1 | h1 | h1⟩:=Lx.inv h Oi
 ·exact absurd h1.1 Oi
 ·exact absurd h1.2.1 Oi
 ·exact h1.2.2.1 rfl
theorem Lu:∀ L:List UInt8,tG L≤L.length
 | []=>Nat.le_refl _
 | [a]=>by
  simp only[tG];split<;>simp
 | a::b::r=>by
  simp only[tG,List.length_cons];split
  ·omega
  ·split<;>omega
def LexG (r:CV):Prop:=∃ (cs:List CV) (n:Nat) (e:Nat),r=.dI [.az cs n,I e,.int .i64 0]
def lD (cs:List CV):Ob:=⟨159,4,cs⟩
def J66 (l:List UInt8)(n:Nat)(s:St):Prop:=∃ (a:Nat) (cs:List CV) (k m:Nat),n=l.length-a∧a≤l.length∧k+m≤4000∧Lx (l.drop a) m∧(∀ c,(l.drop a).head? = some c→iC c=false)∧cs.length=k*4∧trees cs=true∧
 s=⟨[(6,I a),(5,.bp 0 0 k),(0,dE l)],[(0,lD cs)],1⟩
set_option maxHeartbeats 4000000 in
theorem Ma (l:List UInt8)(hl:l.length≤262144)(hx:Lx l 4000):jk Tryz.prog 62 [dE l] LexG:=by
 refine jk.iV af Tryz.func62 rfl N4 (by simp[Tryz.ntmps62]) fun C hC N8=>?_;rw[Tryz.ntmps62] at hC;apply ai;simp[hC];have O7:¬ (262144:Int)<l.length:=by omega
 apply aL;simp[hC,dE,O7];refine aX ?_;simp;apply T.skip;simp;apply ai;simp[hC];have SX:=C5 l 0 (Nat.zero_le _) yA (fun r hr=>by
  have:=hx.skip;simp only[List.drop_zero,Nat.zero_add] at hr this;exact Lx.ncm this r hr)
 simp only[List.drop_zero,Nat.zero_add] at SX;have Wf:=hx.skip;have Ve:∀ c,(l.drop (qX l)).head? = some c→iC c=false:=fun c hc=>zH hc;have Za:qX l≤l.length:=by
  unfold qX;exact (zu (p:=iC) l).1
 generalize qX l=a0 at SX Wf Ve Za;apply ai;simp[hC];refine dc Od (SX) ?_;simp[hC];apply T.block;refine T.aI (J66 l) (n:=l.length-a0) ?_ ?_
 ·refine aa.le (Le.own 5 159 4 rfl) ?_;simp;refine aa.trim [6,5,0] [0] 1 N3 yA ⟨a0,[],0,4000,rfl,Za,by omega,Wf,Ve,rfl,rfl,?_⟩;simp[dE,lD]
 ·rintro n st ⟨a,cs,k,m,rfl,Tg,WK,hxa,YD,Og,Qh,rfl⟩;apply eG;by_cases Vo:a=l.length
  ·apply aL;simp[hC,dE,Vo];refine cB ?_;simp;have hb:(k+1)*40≤140737488355328:=by omega
   have Oh:(lD cs).sz=4:=rfl;have Ou:(lD cs).elem=159:=rfl;have RE:(lD cs).cells.length=k*4:=Og;apply ai;simp[hC,hb,Oh,Ou,RE,aS];apply T.ret;have htr2:trees ((lD cs).cells++[CV.int .i64 5,.str ⟨#[]⟩,.int .i64 0,.int .i64 l.length])=true:=by rw[aZ];simp only[lD,Qh];rfl
   refine aa.le (Le.cV (o:=2) rfl htr2) ?_;simp[bQ];refine aa.here ⟨_,rfl,rfl,_,_,_,rfl⟩
  ·have Oa:a<l.length:=by omega
   have Ok:¬ (a:Int)=l.length:=by omega
   obtain⟨c,hc⟩:∃ c,l[a]? = some c:=⟨l[a],List.getElem?_eq_getElem Oa⟩;have N7:=ln hc;have hd:=gY hc;rw[hd] at hxa YD;have OJ:=YD c rfl;obtain⟨m',rfl,RG⟩:=Lx.inv hxa OJ;rw[← hd] at RG;apply aL;simp[hC,dE,Vo];refine aX ?_;simp;apply T.skip;simp;apply ai;simp[hC];apply ai;simp[hC];refine T.le (Le.trim [8,7,6,5,0] [0,1] 2 Sg yA) ?_;simp;refine T.cut (fun s=>∃ (kind num:Int) (e:Nat),Lx (l.drop e) m'∧a<e∧e≤l.length∧s=⟨[(8,I e),(7,.aq 1 0),(6,I a),(5,.bp 0 0 k),(0,dE l)],[(0,lD cs),(1,⟨159,0,[.int .i64 kind,.str ⟨#[]⟩,.int .i64 num,I a]⟩)],2⟩) ?_ ?_
   ·apply T.block;apply ai;simp[hC,Oa,N7];refine dc Od (lK c) ?_;simp[hC];refine T.bg rfl (fun h=>?_) (fun h=>?_)
    ·have h1:isLet c=true:=by simpa using h
     obtain⟨_,hw16,TB⟩:isLet c=true∧(((l.drop a).takeWhile fB).length≤16∨(l.drop a).takeWhile fB∈rI)∧Lx ((l.drop a).dropWhile fB) m':=by
      rcases RG with h | h | h
      ·exact h
      ·rw[h1] at h;simp at h
      ·rw[h1] at h;simp at h
     obtain⟨t1,t2,t3⟩:=zu (p:=fB) (l.drop a);rw[t2,List.drop_drop] at TB;have Yq:0<((l.drop a).takeWhile fB).length:=by
      rw[hd,List.takeWhile_cons];simp[fB,h1]
     have Wl:=@Gd fB (l.drop a);have T9:=@BS fB (l.drop a);generalize hW:(l.drop a).takeWhile fB=W at *;have hWl:a+W.length≤l.length:=by simp at t1;omega
     refine T.cut (fun s=>s=⟨[(8,I ((a+W.length:Nat))),(7,.aq 1 0),(6,I a),(5,.bp 0 0 k),(0,dE l)],[(0,lD cs),(1,⟨159,0,[.int .i64 0,.str ⟨#[]⟩,.int .i64 0,I a]⟩)],2⟩) ?_ ?_
     ·apply T.block;refine T.aI (fun n s=>∃ j:Nat,n=W.length-j∧j≤W.length∧s=⟨[(8,I ((a+j:Nat))),(7,.aq 1 0),(6,I a),(5,.bp 0 0 k),(0,dE l)],[(0,lD cs),(1,⟨159,0,[.int .i64 0,.str ⟨#[]⟩,.int .i64 0,I a]⟩)],2⟩) (n:=W.length) ?_ ?_
      ·refine aa.trim [8,7,6,5,0] [0,1] 2 Sg yA ⟨0,by omega,by omega,?_⟩;simp[dE]
      ·rintro n s ⟨j,rfl,OD,rfl⟩;obtain⟨e,he⟩:∃ e,a+j=e:=⟨_,rfl⟩;rw[he];by_cases hj:j<W.length
       ·obtain⟨c2,P0,eY⟩:=Wl hj;rw[List.getElem?_drop,he] at P0;have Pc:=ln P0;have Ou:e<l.length:=(List.getElem?_eq_some_iff.1 P0).1;have hw:=cf ((e:Int)+1) yA yA;have RD:=lK c2;have QU:=lU c2
        cases Pv:isLet c2 with
        | true=>
         rw[Pv] at RD;apply aL;simp[hC,dE,Ou,Pc];refine TL.bY Oc rfl rfl rfl rfl (bH.of rfl Od (RD)) (TL.go' af ?_);simp[hC];refine fh ?_;simp;apply T.block;apply aY;simp[hC,hw];refine⟨W.length-(j+1),by omega,?_⟩;refine aa.trim [8,7,6,5,0] [0,1] 2 Sg yA ⟨j+1,rfl,by omega,?_⟩;simp;omega
        | false=>
         rw[Pv] at RD;have hdg2:cY c2=true:=by simpa [fB,Pv] using eY
         rw[hdg2] at QU;apply aL;simp[hC,dE,Ou,Pc];refine TL.bY Oc rfl rfl rfl rfl (bH.of rfl Od (RD)) (TL.go' af ?_);simp[hC,Ou,Pc];refine TL.bY Oc rfl rfl rfl rfl (bH.of rfl Od (QU)) (TL.go' af ?_);simp[hC];refine fh ?_;simp;apply T.block;apply aY;simp[hC,hw];refine⟨W.length-(j+1),by omega,?_⟩;refine aa.trim [8,7,6,5,0] [0,1] 2 Sg yA ⟨j+1,rfl,by omega,?_⟩;simp;omega
       ·have QG:j=W.length:=by omega
        by_cases Ou:e<l.length
        ·obtain⟨c2,P0⟩:∃ c,l[e]? = some c:=⟨l[e],List.getElem?_eq_getElem Ou⟩;have eY:fB c2=false:=T9 (by rw[List.getElem?_drop,← QG,he];exact P0);have Pc:=ln P0;have RD:=lK c2;have QU:=lU c2;have Mn:isLet c2=false∧cY c2=false:=by simpa [fB] using eY
         rw[Mn.1] at RD;rw[Mn.2] at QU;apply aL;simp[hC,dE,Ou,Pc];refine TL.bY Oc rfl rfl rfl rfl (bH.of rfl Od (RD)) (TL.go' af ?_);simp[hC,Ou,Pc];refine TL.bY Oc rfl rfl rfl rfl (bH.of rfl Od (QU)) (TL.go' af ?_);simp[hC];refine aX ?_;simp;apply T.exit;simp;refine aa.trim [8,7,6,5,0] [0,1] 2 Sg yA ?_;simp;omega
        ·apply aL;simp[hC,dE,Ou];refine aX ?_;simp;apply T.exit;simp;refine aa.trim [8,7,6,5,0] [0,1] 2 Sg yA ?_;simp;omega
     ·rintro s rfl;obtain⟨e,he⟩:∃ e,a+W.length=e:=⟨_,rfl⟩;rw[he] at TB ⊢;have k1:a≤e:=by omega
      have k2:e≤l.length:=by omega
      have k3:e-a=W.length:=by omega
      have Pf:List.take W.length (List.drop a (l.map fun x=>CV.int .u8 (x.toNat:Int)))=W.map fun x=>CV.int .u8 (x.toNat:Int):=by
       rw[← List.map_drop,← List.map_take,t3]
      have P8:min W.length (l.length-a)=W.length:=by omega
      have hbW:=nJ W;have hWe:bs ⟨W.toArray⟩=W:=bs_mk W;apply ai;simp[hC];have Qk:=sC ⟨W.toArray⟩;rw[hWe] at Qk;have wk:IntKind.i64.wrap ((e:Int)-a)=(W.length:Int):=by rw[cf _ yA yA];omega
      refine T.seq (T.Bz af ?_);simp[hC,dE,k1,k2,Pf,hbW,k3];refine dc Od (Qk) ?_;simp;refine T.bg rfl (fun h=>?_) (fun h=>?_)
      ·apply aY;simp[hC];refine aa.trim [8,7,6,5,0] [0,1] 2 Sg yA ⟨3,0,e,TB,by omega,k2,?_⟩;simp
      ·have hnr:W∉rI:=by simpa using h
       have h16:W.length≤16:=hw16.resolve_right hnr;have h16':¬ (16:Int)<W.length:=by omega
       apply ai;simp[hC,wk,h16'];refine aX ?_;simp;apply T.skip;simp;refine aa.trim [8,7,6,5,0] [0,1] 2 Sg yA ⟨1,0,e,TB,by omega,k2,?_⟩;simp
    ·have h1:isLet c=false:=by simpa using h
     refine T.le (Le.trim [8,7,6,5,0] [0,1] 2 Sg yA) ?_;simp;apply ai;simp[hC,Oa,N7];refine dc Od (lU c) ?_;simp[hC];refine T.bg rfl (fun h=>?_) (fun h=>?_)
     ·have h2:cY c=true:=by simpa using h
      obtain⟨_,_,hv63,TB⟩:isLet c=false∧cY c=true∧lh ((l.drop a).takeWhile cY)<9223372036854775808∧Lx ((l.drop a).dropWhile cY) m':=by
       rcases RG with h | h | h
       ·rw[h1] at h;simp at h
       ·exact h
       ·rw[h2] at h;simp at h
      obtain⟨t1,t2,t3⟩:=zu (p:=cY) (l.drop a);rw[t2,List.drop_drop] at TB;have Yq:0<((l.drop a).takeWhile cY).length:=by
       rw[hd,List.takeWhile_cons];simp[h2]
      have ON:((l.drop a).takeWhile cY).all cY=true:=List.all_takeWhile;have Wl:=@Gd cY (l.drop a);have T9:=@BS cY (l.drop a);generalize hW:(l.drop a).takeWhile cY=W at *;have hWl:a+W.length≤l.length:=by simp at t1;omega
      refine T.cut (fun s=>s=⟨[(8,I ((a+W.length:Nat))),(7,.aq 1 0),(6,I a),(5,.bp 0 0 k),(0,dE l)],[(0,lD cs),(1,⟨159,0,[.int .i64 0,.str ⟨#[]⟩,.int .i64 0,I a]⟩)],2⟩) ?_ ?_
      ·apply T.block;refine T.aI (fun n s=>∃ j:Nat,n=W.length-j∧j≤W.length∧s=⟨[(8,I ((a+j:Nat))),(7,.aq 1 0),(6,I a),(5,.bp 0 0 k),(0,dE l)],[(0,lD cs),(1,⟨159,0,[.int .i64 0,.str ⟨#[]⟩,.int .i64 0,I a]⟩)],2⟩) (n:=W.length) ?_ ?_
       ·refine aa.trim [8,7,6,5,0] [0,1] 2 Sg yA ⟨0,by omega,by omega,?_⟩;simp[dE]
       ·rintro n s ⟨j,rfl,OD,rfl⟩;obtain⟨e,he⟩:∃ e,a+j=e:=⟨_,rfl⟩;rw[he];by_cases hj:j<W.length
        ·obtain⟨c2,P0,eY⟩:=Wl hj;rw[List.getElem?_drop,he] at P0;have Pc:=ln P0;have Ou:e<l.length:=(List.getElem?_eq_some_iff.1 P0).1;have hw:=cf ((e:Int)+1) yA yA;have QU:=lU c2;rw[eY] at QU;apply aL;simp[hC,dE,Ou,Pc];refine TL.bY Oc rfl rfl rfl rfl (bH.of rfl Od (QU)) (TL.go' af ?_);simp[hC];refine fh ?_;simp;apply T.block;apply aY;simp[hC,hw];refine⟨W.length-(j+1),by omega,?_⟩;refine aa.trim [8,7,6,5,0] [0,1] 2 Sg yA ⟨j+1,rfl,by omega,?_⟩;simp;omega
        ·have QG:j=W.length:=by omega
         by_cases Ou:e<l.length
         ·obtain⟨c2,P0⟩:∃ c,l[e]? = some c:=⟨l[e],List.getElem?_eq_getElem Ou⟩;have eY:cY c2=false:=T9 (by rw[List.getElem?_drop,← QG,he];exact P0);have Pc:=ln P0;have QU:=lU c2;rw[eY] at QU;apply aL;simp[hC,dE,Ou,Pc];refine TL.bY Oc rfl rfl rfl rfl (bH.of rfl Od (QU)) (TL.go' af ?_);simp[hC];refine aX ?_;simp;apply T.exit;simp;refine aa.trim [8,7,6,5,0] [0,1] 2 Sg yA ?_;simp;omega
         ·apply aL;simp[hC,dE,Ou];refine aX ?_;simp;apply T.exit;simp;refine aa.trim [8,7,6,5,0] [0,1] 2 Sg yA ?_;simp;omega
      ·rintro s rfl;obtain⟨e,he⟩:∃ e,a+W.length=e:=⟨_,rfl⟩;rw[he] at TB ⊢;have k1:a≤e:=by omega
       have k2:e≤l.length:=by omega
       have k3:e-a=W.length:=by omega
       have Pf:List.take W.length (List.drop a (l.map fun x=>CV.int .u8 (x.toNat:Int)))=W.map fun x=>CV.int .u8 (x.toNat:Int):=by
        rw[← List.map_drop,← List.map_take,t3]
       have Tc:=vV W yA ON hv63;have Ul:¬ ((lh W:Int)<0):=by omega
       apply ai;simp[hC,dE,k1,k2,Pf,k3];simp only[dE] at Tc;refine dc Od (Tc) ?_;simp[hC];apply ai;simp[hC,Ul];refine aX ?_;simp;apply T.skip;simp;refine aa.trim [8,7,6,5,0] [0,1] 2 Sg yA ⟨2,lh W,e,TB,by omega,k2,?_⟩;simp
     ·have h2:cY c=false:=by simpa using h
      obtain⟨Ve,TB⟩:0<tG (l.drop a)∧Lx ((l.drop a).drop (tG (l.drop a))) m':=by
       rcases RG with h | h | h
       ·rw[h1] at h;simp at h
       ·rw[h2] at h;simp at h
       ·exact⟨h.2.2.2.1,h.2.2.2.2⟩
      have XM:=Jb l a Oa yA;have YF:a+tG (l.drop a)≤l.length:=by
       have h2:=Lu (l.drop a);rw[List.length_drop] at h2;omega
      rw[List.drop_drop] at TB;generalize tG (l.drop a)=g at XM Ve TB YF;have hwg:=cf ((a:Int)+g) yA yA;have hne2:¬ (a:Int)+g=a:=by omega
      simp only[dE] at XM;refine T.le (Le.trim [8,7,6,5,0] [0,1] 2 Sg yA) ?_;simp;apply ai;simp[hC];refine dc Od (XM) ?_;simp[hC,hwg];apply ai;simp[hC];apply ai;simp[hC];refine T.bg rfl (fun h=>?_) (fun h=>?_)
      ·simp at h;omega
      apply T.skip;simp;refine aa.trim [8,7,6,5,0] [0,1] 2 Sg yA ⟨4,0,a+g,TB,by omega,YF,?_⟩;simp[dE]
   ·rintro s ⟨kind,num,e,hxe,hae,Ou,rfl⟩;have k1:a≤e:=by omega
    have k3:e-a≤l.length-a:=by omega
    have hk4:¬ (k:Int)=4000:=by omega
    apply aL;simp[hC];refine T.bg rfl (fun h=>?_) (fun h=>?_)
    ·simp at h;omega
    apply T.skip;simp;have Pf:List.take (e-a) (List.drop a (l.map fun x=>CV.int .u8 (x.toNat:Int)))=((l.drop a).take (e-a)).map fun x=>CV.int .u8 (x.toNat:Int):=by
     rw[← List.map_drop,← List.map_take]
    have P8:min (e-a) (l.length-a)=e-a:=by omega
    have hbW:=nJ ((l.drop a).take (e-a));have hWl:((l.drop a).take (e-a)).length=e-a:=by simp;omega
    generalize (l.drop a).take (e-a)=W at Pf hbW hWl;have XB:=C5 l e Ou yA (fun r hr=>by
     have:=hxe.skip;rw[List.drop_drop] at this;exact Lx.ncm this r hr)
    refine T.seq (T.Bz af ?_);simp[hC,dE,k1,Ou,Pf,hbW,hWl];have hb:(k+1)*40≤140737488355328:=by omega
    have Oh:(lD cs).sz=4:=rfl;have Ux:(lD cs).elem=159:=rfl;have RE:(lD cs).cells.length=k*4:=Og;apply aY;simp[hC,hb,Oh,Ux,RE,aS];simp only[dE] at XB;have PU:=hxe.skip;rw[List.drop_drop] at PU;have YC:∀ c,(l.drop (e+qX (l.drop e))).head? = some c→iC c=false:=fun c hc=>by
     rw[← List.drop_drop] at hc;exact zH hc
    have Y9:e+qX (l.drop e)≤l.length:=by
     have:=(zu (p:=iC) (l.drop e)).1;rw[List.length_drop] at this;unfold qX;omega
    obtain⟨a2,Q3⟩:∃ a2,e+qX (l.drop e)=a2:=⟨_,rfl⟩;rw[Q3] at XB PU YC Y9;have hea:e≤a2:=by omega
    apply aY;simp[hC];refine dc Od (XB) ?_;simp[hC];refine⟨l.length-a2,by omega,?_⟩;have T8:trees ((lD cs).cells++[CV.int .i64 kind,.str ⟨W.toArray⟩,.int .i64 num,I a])=true:=by rw[aZ];simp only[lD,Qh];rfl
    refine aa.le (Le.trim [6,5,0] [3] 4 (by simp[-List.all_append,ah T8]) yA) ?_;simp;refine aa.le (Le.oJ 3 0 rfl rfl yA N3 N3 (by simp[-List.all_append,bh T8])) ?_;simp[-List.map_append,a7 T8];refine aa.trim [6,5,0] [0] 1 (by simp[-List.all_append,ah T8]) yA ⟨a2,(lD cs).cells++[CV.int .i64 kind,.str ⟨W.toArray⟩,.int .i64 num,I a],k+1,m',rfl,Y9,by omega,PU,YC,?_,T8,?_⟩
    ·simp[RE];omega
    ·simp[dE,lD]
end Go.Proofs.YtlkmbdfhdknlgaaGreatDoor
namespace Go.Can
open Go.RowKit
def y3:Value→Bool
 | .int _ _=>true
 | .bool _=>true
 | .string _=>true
 | _=>false
def BC:Value→Bool
 | .agg cs=>cs.toList.all y3
 | v=>y3 v
def BO:Value→Value→Bool
 | .int k a,.int j b=>decide (k=j) && a == b
 | .bool a,.bool b=>a == b
 | .string a,.string b=>a.data.toList == b.data.toList
 | _,_=>false
def xU:List Value→List Value→Bool
 | [],[]=>true
 | a::r,b::q=>BO a b && xU r q
 | _,_=>false
def Bv:Value→Value→Bool
 | .agg a,.agg b=>xU a.toList b.toList
 | a,b=>BO a b
theorem CY {a b:Value}(h:BO a b=true):a=b:=by
 unfold BO at h;split at h
 ·simp only[Bool.and_eq_true,decide_eq_true_eq,beq_iff_eq] at h;rw[h.1,h.2]
 ·simp only[beq_iff_eq] at h;rw[h]
 ·rename_i a b;have h2:a.data=b.data:=Array.toList_inj.1 QW;rw[ByteArray.ext h2]
 ·cases h
theorem CX:∀ (a b:List Value),xU a b=true→a=b
 | [],[],_=>rfl
 | [],_::_,h=>by simp[xU] at h
 | _::_,[],h=>by simp[xU] at h
 | a::r,b::q,h=>by
  simp only[xU,Bool.and_eq_true] at h;rw[CY h.1,CX r q h.2]
theorem rk {a b:Value}(h:Bv a b=true):a=b:=by
 unfold Bv at h;split at h
 ·rename_i a b;rw[Array.toList_inj.1 (CX _ _ h)]
 ·exact CY h
theorem wE {a:Value}(h:y3 a=true):BO a a=true:=by
 cases a<;>simp_all [y3,BO]
theorem wD:∀ (l:List Value),l.all y3=true→xU l l=true
 | [],_=>rfl
 | a::r,h=>by
  simp only[List.all_cons,Bool.and_eq_true] at h;simp[xU,wE h.1,wD r h.2]
theorem pZ {a:Value}(h:BC a=true):Bv a a=true:=by
 cases a<;>simp only[BC,y3,Bool.false_eq_true] at h<;>simp only[Bv]<;>first
  | exact wD _ h
  | exact wE rfl
def vY (kv:Value):List (Value×Value)→Option Value
 | []=>none
 | (k,v)::r=>if Bv kv k=true then some v else vY kv r
def oM (kv vv:Value):List (Value×Value)→List (Value×Value)
 | []=>[(kv,vv)]
 | (k,v)::r=>if Bv kv k=true then (kv,vv)::r else (k,v)::oM kv vv r
theorem Aj {kv:Value}:∀ (es:List (Value×Value)) (v:Value),vY kv es=some v→(kv,v)∈es
 | [],_,h=>by simp[vY] at h
 | (k,u)::r,v,h=>by
  simp only[vY] at h;split at h
  ·rename_i e;rw[rk e];cases h;exact List.mem_cons_self
  ·exact List.mem_cons_of_mem _ (Aj r v h)
theorem xq {kv:Value}(hc:BC kv=true):∀ (es:List (Value×Value)),(es.map (·.1)).Nodup→∀ v,(kv,v)∈es→vY kv es=some v
 | [],_,v,hx=>by cases hx
 | (k,u)::r,hn,v,hx=>by
  simp only[List.map_cons,List.nodup_cons] at hn;simp only[vY];rcases List.mem_cons.1 hx with e | hx
  ·cases e;rw[if_pos (pZ hc)]
  ·rw[if_neg (fun e=>hn.1 (List.mem_map.2 ⟨(kv,v),hx,rk e⟩))];exact xq hc r hn.2 v hx
theorem xn {kv vv:Value}:∀ (es:List (Value×Value)) (x:Value×Value),x∈oM kv vv es→x.1=kv∨x∈es
 | [],x,h=>by simp only[oM,List.mem_singleton] at h;exact .inl (by rw[h])
 | (k,u)::r,x,h=>by
  simp only[oM] at h;split at h
  ·rcases List.mem_cons.1 h with e | h
   ·exact .inl (by rw[e])
   ·exact .inr (List.mem_cons_of_mem _ h)
  ·rcases List.mem_cons.1 h with e | h
   ·exact .inr (by rw[e];exact List.mem_cons_self)
   ·rcases xn r x h with h | h
    ·exact .inl h
    ·exact .inr (List.mem_cons_of_mem _ h)
theorem uY {kv vv:Value}(hc:BC kv=true):∀ (es:List (Value×Value)),(es.map (·.1)).Nodup→((oM kv vv es).map (·.1)).Nodup
 | [],_=>by simp[oM]
 | (k,u)::r,hn=>by
  simp only[List.map_cons,List.nodup_cons] at hn;simp only[oM];split
  ·rename_i e;have:=rk e;subst this
   simpa using hn
  ·rename_i e;simp only[List.map_cons,List.nodup_cons];refine⟨fun hm=>?_,uY hc r hn.2⟩;obtain⟨x,hx,e2⟩:=List.mem_map.1 hm;rcases xn r x hx with h | h
   ·rw[h] at e2;subst e2;exact e (pZ hc)
   ·exact hn.1 (List.mem_map.2 ⟨x,h,e2⟩)
def cv1:CV→Option Value
 | .int k n=>some (.int k n)
 | .bool b=>some (.bool b)
 | .str s=>some (.string s)
 | _=>none
def cvs:List CV→Option (List Value)
 | []=>some []
 | c::r=>match cv1 c,cvs r with
  | some v,some vs=>some (v::vs)
  | _,_=>none
def mG:CV→Option Value
 | .agg cs=>match cvs cs with
  | some vs=>some (.agg vs.toArray)
  | none=>none
 | c=>cv1 c
section
variable {P:Program}{C:Cx}{σ:Nat→Option OB}{s:St}{a:Act}{w:World}{ops:Array Oper}{av:List (Nat×TI)}
theorem H6 {F:Nat→Prop}{c:CV}{v u:Value}(h:cv1 c=some v)(hv:VR w F σ c u):u=v∧y3 v=true:=by
 cases c<;>simp only[cv1] at h<;>first | cases h | skip
 all_goals
  simp only[VR] at hv;exact⟨hv,rfl⟩
theorem H5 {F:Nat→Prop}:∀ (cs:List CV) (vs us:List Value),cvs cs=some vs→aT w F σ cs us→us=vs∧vs.all y3=true
 | [],vs,us,h,hv=>by
  simp only[cvs] at h;cases h;simp only[aT] at hv;exact⟨hv,rfl⟩
 | c::cs,vs,us,h,hv=>by
  simp only[cvs] at h;split at h
  ·rename_i v vs' h1 h2;cases h;simp only[aT] at hv;obtain⟨u,r,rfl,k1,k2⟩:=hv;obtain⟨q1,q2⟩:=H6 h1 k1;obtain⟨q3,q4⟩:=H5 cs vs' r h2 k2;exact⟨by rw[q1,q3],by simp[q2,q4]⟩
  ·cases h
theorem j6 {F:Nat→Prop}{c:CV}{v u:Value}(h:mG c=some v)(hv:VR w F σ c u):u=v∧BC v=true:=by
 unfold mG at h;split at h
 ·rename_i cs;split at h
  ·rename_i vs hvs;cases h;simp only[VR] at hv;obtain⟨us,rfl,hr,_⟩:=hv;obtain⟨q1,q2⟩:=H5 _ _ _ hvs hr;exact⟨by rw[q1],by simpa [BC] using q2⟩
  ·cases h
 ·obtain⟨q1,q2⟩:=H6 h hv;refine⟨q1,?_⟩;cases v<;>simp_all [BC,y3]
structure MT (P:Program)(t kt et:TypeId)(kb:Value→Bool)(zv:Value):Prop where
 Bw:P.underlying t=some (.map kt et)
 keyed:Go.Maps.Keyed P kt
 key:∀ v,kb v=true→∃ l,keyOf P kt v=some l
 zero:∃ f,P.info? et=some f∧f.zero=some zv
theorem E8 {t kt et:TypeId}{kb:Value→Bool}{zv:Value}(M:MT P t kt et kb zv){o:Oper}{x y:Operand}{k:Nat}{es:List (Value×Value)}{cy c:CV}{kv:Value}(hd:bt C.nt o.dst=true)(ho:o.op=.lookup t x y false)
  (hx:ev s x=some (.mp k es)) (hy:ev s y=some cy) (hk:mG cy=some kv) (hkb:kb kv=true) (Zq:(es.all fun e=>kb e.1)=true)
  (hc:(match vY kv es with | some v=>fF v | none=>fF zv)=some c):sR P C o s (s.put o.dst c):=by
 rintro a w ⟨σ,h⟩;have hv:=bO h hx;simp only[VR] at hv;obtain⟨B,r,arr,clock,hB,hb,hv,hr,QP,QE,hf⟩:=hv;obtain⟨hkv,Vs⟩:=j6 hk (bO h hy);obtain⟨l,hl⟩:=M.key kv hkb;have Rm:∀ e∈arr.toList,∃ l,keyOf P kt e.key=some l:=fun e he=>by
  have:(e.key,e.val)∈es:=by rw[← QP];exact List.mem_map.2 ⟨e,he,rfl⟩
  exact M.key _ (List.all_eq_true.1 Zq _ this)
 have P9:(getObj r).run P w=.ok (.map arr clock) w:=by simp[getObj,Sem.run,hr]
 have UB:=M.keyed.check w arr.isEmpty hl;obtain⟨f,g1,g2⟩:=M.zero;have Pz:∃ u,(Instr.lookup t (.map (some r)) kv false).run P w=.ok u w∧fF u=some c:=by
  rcases M.keyed.find w hl arr.toList Rm with ⟨TK,S9⟩ | ⟨j,e,TK,S9,hf3⟩
  ·have OY:vY kv es=none:=by
    cases hm:vY kv es with
    | none=>rfl
    | some v=>
     exfalso;have:=Aj es v hm;rw[← QP] at this;obtain⟨e,he,e2⟩:=List.mem_map.1 this;simp only[Prod.mk.injEq] at e2;exact S9 e he e2.1
   rw[OY] at hc;refine⟨zv,?_,hc⟩;have Yi:=iU (P:=P) g1 g2 w;simp[Instr.lookup,bC M.Bw,P9,UB,TK,Yi]
  ·have PL:(kv,e.val)∈es:=by
    rw[← QP];exact List.mem_map.2 ⟨e,List.mem_of_getElem? S9,by rw[hf3]⟩
   rw[xq Vs es QE _ PL] at hc;refine⟨e.val,?_,hc⟩;simp[Instr.lookup,bC M.Bw,P9,UB,TK]
 obtain⟨u,k1,k2⟩:=Pz;refine⟨w,.inl ⟨u,?_,fj hd h (VR.cA _ _ (kF k2).1)⟩⟩;simp[execOp,ho,hv,hkv,k1]
def Ht (k:Nat):CV→Bool
 | .mp k' _=>k' == k
 | _=>false
def isIt:CV→Bool
 | .iter _ _ _=>true
 | _=>false
def L7 (k:Nat)(es:List (Value×Value)):List (Nat×CV)→List (Nat×CV)
 | []=>[]
 | (t,c)::r=>(t,if Ht k c then .mp k es else c)::L7 k es r
theorem xO {k:Nat}{es:List (Value×Value)}:∀ (l:List (Nat×CV)) (t:Nat) (c:CV),assoc (L7 k es l) t=some c→∃ d,assoc l t=some d∧c=if Ht k d then .mp k es else d
 | [],t,c,h=>by simp[L7,assoc] at h
 | (u,d)::r,t,c,h=>by
  simp only[L7,assoc] at h ⊢;split at h
  ·rename_i e;cases h;rw[if_pos e];exact⟨d,rfl,rfl⟩
  ·rename_i e;rw[if_neg e];exact xO r t c h
def Ga (s:St)(k:Nat):Bool:=(s.env.all fun x=>kW x.2 || Ht k x.2 || isIt x.2) && s.heap.all fun x=>jr x.2.cells
theorem sH {kv vv:Value}:∀ (es:List (Value×Value)),(∀ x∈es,x.1≠kv)→oM kv vv es=es++[(kv,vv)]
 | [],_=>rfl
 | (k,u)::r,h=>by
  simp only[oM];rw[if_neg (fun e=>h (k,u) List.mem_cons_self (rk e).symm),sH r fun x hx=>h x (List.mem_cons_of_mem _ hx)];rfl
theorem Ds {kv vv:Value}(hc:BC kv=true):∀ (es:List (Value×Value)) (j:Nat) (v:Value),(es.map (·.1)).Nodup→es[j]? = some (kv,v)→oM kv vv es=es.set j (kv,vv)
 | [],j,v,_,h=>by simp at h
 | (k,u)::r,0,v,_,h=>by
  simp only[List.getElem?_cons_zero,Option.some.injEq,Prod.mk.injEq] at h;simp only[oM,h.1];rw[if_pos (pZ hc)];rfl
 | (k,u)::r,j+1,v,hn,h=>by
  simp only[List.map_cons,List.nodup_cons] at hn;simp only[List.getElem?_cons_succ] at h;simp only[oM];rw[if_neg (fun e=>hn.1 (List.mem_map.2 ⟨(kv,v),List.mem_of_getElem? h,rk e⟩)),Ds hc r j v hn.2 h];rfl
theorem E7 {t kt et:TypeId}{kb:Value→Bool}{zv:Value}(M:MT P t kt et kb zv){o:Oper}{x y v:Operand}{k:Nat}{es:List (Value×Value)}{cy cv:CV}{kv vv:Value}(_hd:bt C.nt o.dst=true)(ho:o.op=.mapUpdate t x y v)
  (hx:ev s x=some (.mp k es)) (hy:ev s y=some cy) (hk:mG cy=some kv) (hv0:ev s v=some cv) (hvv:mG cv=some vv) (hkb:kb kv=true) (Zq:(es.all fun e=>kb e.1)=true) (hk0:C.n0≤k) (Om:Ga s k=true) :
  sR P C o s (St.del { s with env:=L7 k (oM kv vv es) s.env } o.dst):=by
 rintro a w ⟨σ,h⟩;have hv:=bO h hx;simp only[VR] at hv;obtain⟨B,r,arr,clock,hB,hb,hv,hr,QP,QE,hf⟩:=hv;obtain⟨hkv,Vs⟩:=j6 hk (bO h hy);obtain⟨PI,_⟩:=j6 hvv (bO h hv0);obtain⟨l,hl⟩:=M.key kv hkb;have O5:=(Array.getElem?_eq_some_iff.1 hr).1;have Rm:∀ e∈arr.toList,∃ l,keyOf P kt e.key=some l:=fun e he=>by
  have:(e.key,e.val)∈es:=by rw[← QP];exact List.mem_map.2 ⟨e,he,rfl⟩
  exact M.key _ (List.all_eq_true.1 Zq _ this)
 have P9:(getObj r).run P w=.ok (.map arr clock) w:=by simp[getObj,Sem.run,hr]
 have SA:∀ q,(setObj r q).run P w=.ok () { w with heap:=w.heap.setIfInBounds r q }:=fun q=>by simp[setObj,Sem.run,hr]
 have UB:=M.keyed.check w false hl;have Pz:∃ Tz QV,(Instr.mapUpdate t (.map (some r)) kv vv).run P w=.ok () { w with heap:=w.heap.setIfInBounds r (.map Tz QV) }∧Tz.toList.map (fun e=>(e.key,e.val))=oM kv vv es:=by
  rcases M.keyed.find w hl arr.toList Rm with ⟨TK,S9⟩ | ⟨j,e,TK,S9,hf3⟩
  ·refine⟨arr.push { key:=kv,val:=vv,born:=clock },clock+1,?_,?_⟩
   ·simp[Instr.mapUpdate,bC M.Bw,P9,UB,TK,SA]
   ·rw[sH es fun x hx=>by
     rw[← QP] at hx;obtain⟨e,he,rfl⟩:=List.mem_map.1 hx;exact S9 e he,← QP]
    simp
  ·have Yy:=M.keyed.stays w hl;have hj:arr[j]? = some e:=by simpa using S9
   refine⟨arr.modify j fun e=>{ e with key:=kv,val:=vv },clock,?_,?_⟩
   ·simp[Instr.mapUpdate,bC M.Bw,P9,UB,TK,hj,hf3,Yy,SA]
   ·have Ut:es[j]? = some (kv,e.val):=by
     rw[← QP,List.getElem?_map,S9];simp[hf3]
    rw[Ds Vs es j e.val QE Ut,← QP];apply List.ext_getElem?;intro i;simp only[List.getElem?_map,List.getElem?_set,Array.getElem?_toList,Array.getElem?_modify,List.length_map,Array.length_toList];by_cases Tr:j=i
    ·subst Tr;have OD:=(Array.getElem?_eq_some_iff.1 hj).1;rw[if_pos rfl,if_pos rfl,if_pos OD,hj];rfl
    ·rw[if_neg Tr,if_neg Tr]
 obtain⟨Tz,QV,k1,k2⟩:=Pz;simp only[Ga,Bool.and_eq_true,List.all_eq_true,Bool.or_eq_true] at Om;generalize OU:({ w with heap:=w.heap.setIfInBounds r (.map Tz QV) }:World)=w' at k1;have OK:∀ j,j≠r→w'.heap[j]? = w.heap[j]?:=fun j hj=>by simp[← OU,Ne.symm hj]
 have P5:w'.heap[r]? = some (.map Tz QV):=by simp[← OU,O5]
 have Oh:w'.heap.size=w.heap.size:=by simp[← OU]
 have WM:∀ F:Nat→Prop,mD w w' F F:=fun F ad u hf hu=>by
  have Ok:ad.block≠r:=fun e=>by
   unfold World.cell? at hu;rw[e,hr] at hu;cases hu
  exact⟨by rw[World.cell?_of_block (OK _ Ok)];exact hu,hf⟩
 have h':aK C σ { s with env:=L7 k (oM kv vv es) s.env } a w':=by
  refine⟨h.oA,h.tm,(by rw[← OU];exact h.os),(by rw[← OU];exact h.tape),(by rw[← OU];exact h.output),by rw[Oh];exact h.size,?_,?_,?_,h.inj,h.nx,h.gO,h.low,h.new⟩
  ·intro j hj1 Ut;rw[OK j (fun e=>?_)]
   ·exact h.frame j hj1 Ut
   ·subst e;rcases h.new k B j hk0 hB hb with n4 | n4
    ·exact Ut n4
    ·omega
  ·intro t c hc;obtain⟨d,OM,rfl⟩:=xO _ _ _ hc;obtain⟨v,q1,q2⟩:=h.env t d OM;refine⟨v,q1,?_⟩;by_cases hi:Ht k d=true
   ·rw[if_pos hi];cases d<;>simp only[Ht,Bool.false_eq_true] at hi;rename_i k' es';have:k'=k:=by simpa using hi
    subst this;simp only[VR] at q2 ⊢;obtain⟨B2,r2,arr2,clock2,m1,m2,m3,m4,m5,m6,m7⟩:=q2;rw[hB] at m1;cases m1;rw[hb] at m2;cases m2;exact⟨B,r,Tz,QV,hB,hb,m3,P5,k2,uY Vs es QE,m7⟩
   ·rw[if_neg hi];rcases Om.1 _ (bG _ _ _ OM) with (q | q) | q
    ·exact VR.nw (WM _) _ _ q q2
    ·exact absurd q hi
    ·cases d<;>simp only[isIt,Bool.false_eq_true] at q;simp only[VR] at q2 ⊢;obtain⟨B2,r2,m1,m2,m3,m4,m5⟩:=q2;have Ok:r2≠r:=fun e=>by rw[e,hr] at m4;cases m4
     exact⟨B2,r2,m1,m2,m3,by rw[OK r2 Ok];exact m4,m5⟩
  ·intro q y hq;obtain⟨B2,m1,m2,m3,m4,m5⟩:=h.obj q y hq;refine⟨B2,m1,m2,m3,m4,fun b2 O2=>?_⟩;obtain⟨SO,q1,q2,q3,q4,q5,q6⟩:=m5 b2 O2;have Ok:b2≠r:=fun e=>by subst e;rw[hr] at q1;cases q1
   exact⟨SO,by rw[OK b2 Ok];exact q1,q2,q3,q4,q5,aT.nw (WM _) _ _ (Om.2 _ (bG _ _ _ hq)) q6⟩
 refine⟨w',.inr ⟨?_,σ,h'.del undef⟩⟩;simp[execOp,ho,hv,hkv,PI,k1]
structure MI where
 t:Nat
 kt:Nat
 et:Nat
 kb:Value→Bool
 zv:Value
def MU (P:Program)(l:List MI):Prop:=∀ x∈l,MT P x.t x.kt x.et x.kb x.zv
def NL:List MI→Nat→Option MI
 | [],_=>none
 | x::r,t=>if x.t=t then some x else NL r t
theorem yF:∀ (l:List MI) (t:Nat) (x:MI),NL l t=some x→x∈l∧x.t=t
 | [],_,_,h=>by simp[NL] at h
 | y::r,t,x,h=>by
  simp only[NL] at h;split at h
  ·rename_i e;cases h;exact⟨List.mem_cons_self,e⟩
  ·obtain⟨h1,h2⟩:=yF r t x h;exact⟨List.mem_cons_of_mem _ h1,h2⟩
def G7 (mi:List MI)(n0:Nat)(s:St)(o:Oper):Option St:=
 match o.op with
 | .lookup t x y false=>match NL mi t,ev s x,ev s y with
  | some M,some (.mp _ es),some cy=>match mG cy with
   | some kv=>if M.kb kv=true∧(es.all fun e=>M.kb e.1)=true then
     match (match vY kv es with | some v=>fF v | none=>fF M.zv) with
     | some c=>some (s.put o.dst c)
     | none=>none
    else none
   | none=>none
  | _,_,_=>none
 | .mapUpdate t x y v=>match NL mi t,ev s x,ev s y,ev s v with
  | some M,some (.mp k es),some cy,some cv=>match mG cy,mG cv with
   | some kv,some vv=>if M.kb kv=true∧(es.all fun e=>M.kb e.1)=true∧n0≤k∧Ga s k=true then some (St.del { s with env:=L7 k (oM kv vv es) s.env } o.dst) else none
   | _,_=>none
  | _,_,_,_=>none
 | _=>none
theorem G6 {mi:List MI}(hM:MU P mi){o:Oper}{s':St}(hd:bt C.nt o.dst=true)(h:G7 mi C.n0 s o=some s'):sR P C o s s':=by
 unfold G7 at h;split at h
 ·rename_i t x y ho;split at h
  ·rename_i M k es cy h1 h2 h3;obtain⟨m1,m2⟩:=yF _ _ _ h1;have hT:=hM M m1;rw[m2] at hT;split at h
   ·rename_i kv h4;split at h
    ·rename_i hc;split at h
     ·rename_i c h5;cases h;exact E8 hT hd ho h2 h3 h4 hc.1 hc.2 h5
     ·cases h
    ·cases h
   ·cases h
  ·cases h
 ·rename_i t x y v ho;split at h
  ·rename_i M k es cy cv h1 h2 h3 h4;obtain⟨m1,m2⟩:=yF _ _ _ h1;have hT:=hM M m1;rw[m2] at hT;split at h
   ·rename_i kv vv h5 h6;split at h
    ·rename_i hc;cases h;exact E7 hT hd ho h2 h3 h5 h4 h6 hc.1 hc.2.1 hc.2.2.1 hc.2.2.2
    ·cases h
   ·cases h
  ·cases h
 ·cases h
def qZ (n:Int):Bool:=decide (-9223372036854775808≤n) && decide (n≤9223372036854775807)
structure EqT (P:Program)(t:TypeId)(kb:Value→Bool):Prop where
 eq:∀ (w:World) (x y:Value),kb x=true→kb y=true→(Op.equalIn 10000 t x y).run P w=.ok (Bv x y) w
 guard:P.eqGuardType P.depth t=false
 agg:∀ x,kb x=true→∃ cs,x=.agg cs
structure EI where
 t:Nat
 kb:Value→Bool
def MW (P:Program)(l:List EI):Prop:=∀ x∈l,EqT P x.t x.kb
def eil:List EI→Nat→Option EI
 | [],_=>none
 | x::r,t=>if x.t=t then some x else eil r t
theorem DO:∀ (l:List EI) (t:Nat) (x:EI),eil l t=some x→x∈l∧x.t=t
 | [],_,_,h=>by simp[eil] at h
 | y::r,t,x,h=>by
  simp only[eil] at h;split at h
  ·rename_i e;cases h;exact⟨List.mem_cons_self,e⟩
  ·obtain⟨h1,h2⟩:=DO r t x h;exact⟨List.mem_cons_of_mem _ h1,h2⟩
def HT (ei:List EI)(s:St)(o:Oper):Option St:=
 match o.op with
 | .binOp op t x y _=>match eil ei t,ev s x,ev s y with
  | some E,some cx,some cy=>match mG cx,mG cy with
   | some vx,some vy=>if E.kb vx=true∧E.kb vy=true then match op with
     | .eql=>some (s.put o.dst (.bool (Bv vx vy)))
     | .neq=>some (s.put o.dst (.bool (!(Bv vx vy))))
     | _=>none
    else none
   | _,_=>none
  | _,_,_=>none
 | _=>none
theorem HS {ei:List EI}(hE:MW P ei){o:Oper}{s':St}(hd:bt C.nt o.dst=true)(h:HT ei s o=some s'):sR P C o s s':=by
 unfold HT at h;split at h
 ·rename_i op t x y q ho;split at h
  ·rename_i E cx cy h1 h2 h3;obtain⟨m1,m2⟩:=DO _ _ _ h1;have hT:=hE E m1;rw[m2] at hT;split at h
   ·rename_i vx vy h4 h5;split at h
    ·rename_i hc;rintro a w ⟨σ,hr⟩;obtain⟨e1,_⟩:=j6 h4 (bO hr h2);obtain⟨e2,_⟩:=j6 h5 (bO hr h3);obtain⟨xs,rfl⟩:=hT.agg vx hc.1;obtain⟨ys,rfl⟩:=hT.agg vy hc.2;have hq:=hT.eq w _ _ hc.1 hc.2;split at h
     ·cases h;refine⟨w,.inl ⟨.bool (Bv (.agg xs) (.agg ys)),?_,fj hd hr (dA _)⟩⟩;simp only[execOp,ho,e1,e2,Sem.run_bind,run_eqGuard_agg w _ t x y xs ys hT.guard,Result.andThen_ok,run_eql_struct,hq,Sem.run_pure]
     ·cases h;refine⟨w,.inl ⟨.bool (!(Bv (.agg xs) (.agg ys))),?_,fj hd hr (dA _)⟩⟩;simp only[execOp,ho,e1,e2,Sem.run_bind,run_eqGuard_agg w _ t x y xs ys hT.guard,Result.andThen_ok,run_neq_struct,hq,Sem.run_pure]
     ·cases h
    ·cases h
   ·cases h
  ·cases h
 ·cases h
def frzA (s:St)(p:Nat)(ob:Ob)(d:Option Tmp)(n:Nat):St:=(s.cV p ob).put d (.az ob.cells n)
theorem Ls (ht:aF P av){o:Oper}{t e:TypeId}{x:Operand}{p n:Nat}{ob:Ob}{ie:TI}(hd:bt C.nt o.dst=true)(ho:o.op=.slice t x none none none)(hx:ev s x=some (.aq p 0))(h2:dG av t=some (.arr n e))(Oe:assoc av e=some ie)
  (hn:0<n) (hm:n≤1000000) (P7:assoc s.heap p=some ob) (Qh:trees ob.cells=true):sR P C o s (frzA s p ob o.dst n):=by
 rintro a w ⟨σ,h⟩;obtain⟨i2,b1,b2,_⟩:=eF ht h2;have g2:=nN (ht t i2 b1) b2;obtain⟨f,z,g3,_⟩:=(ht e ie Oe).info;have h':=h.cV P7 Qh;have Qq:∃ v,a.eval x=v∧VR w (FB C σ (s.cV p ob).heap) σ (.cF ob.cells) v:=by
  cases x with
  | tmp t=>
   have O9:assoc s.env t=some (.aq p 0):=hx;have:∀ l:List (Nat×CV),assoc l t=some (.aq p 0)→assoc (wu p ob.cells ob.sz l) t=some (.cF ob.cells):=by
    intro l
    induction l with
    | nil=>intro h;cases h
    | cons y r ih=>
     obtain⟨k,c⟩:=y;intro hl;simp only[wu,assoc] at hl ⊢;split at hl
     ·rename_i e;cases hl;rw[if_pos e];simp[bQ]
     ·rename_i e;rw[if_neg e];exact ih hl
   obtain⟨v,k1,k2⟩:=h'.env t _ (this s.env O9);exact⟨v,by simp[Act.eval,k1],k2⟩
  | const v=>exact absurd hx (by
    simp only[ev];intro hc;have:=pM (w:=w) (F:=fun _=>False) hc;simp[bZ] at this)
  | func f=>cases hx
  | global g=>
   simp only[ev,Option.bind_eq_some_iff,Option.map_eq_some_iff] at hx;obtain⟨_,_,_,_,h⟩:=hx;cases h
 obtain⟨v,hv,hvr⟩:=Qq;simp only[VR,bZ] at hvr;obtain⟨ad,rfl,hmr⟩:=hvr;refine⟨w,.inl ⟨.slice (some ad) n n,?_,fj hd h' ?_⟩⟩
 ·have hsb:(Instr.sliceBounds false n n none none none).run P w=.ok (0,n,n) w:=by simp[Instr.sliceBounds]
  have Ok:¬ n=0:=by omega
  have:(Instr.sliceAt t (.pointer (some ad)) none none none).run P w=.ok (.slice (some ad) n n) w:=by
   simp[Instr.sliceAt,bC g2,Instr.sureAddr,hsb,cL g3,Ok,add_zero]
  simp[execOp,ho,hv,this]
 ·simp only[VR,bZ];exact⟨_,n,rfl,Nat.le_refl _,by simp only[maxLen];omega,.inr ⟨ad,rfl,hmr⟩⟩
def Iz (av:List (Nat×TI))(s:St)(o:Oper):Option St:=
 match o.op with
 | .slice t x none none none=>match ev s x,dG av t with
  | some (.aq p 0),some (.arr n e)=>match assoc av e,assoc s.heap p with
   | some _,some ob=>if 0<n∧n≤1000000∧trees ob.cells=true then some (frzA s p ob o.dst n) else none
   | _,_=>none
  | _,_=>none
 | _=>none
theorem Iy (ht:aF P av){o:Oper}{s':St}(hd:bt C.nt o.dst=true)(h:Iz av s o=some s'):sR P C o s s':=by
 unfold Iz at h;split at h
 ·rename_i t x ho;split at h
  ·rename_i p n e hx h2;split at h
   ·rename_i ie ob h3 h4;split at h
    ·rename_i hc;cases h;exact Ls ht hd ho hx h2 h3 hc.1 hc.2.1 h4 hc.2.2
    ·cases h
   ·cases h
  ·cases h
 ·cases h
end
structure IP where
 av:List (Nat×TI)
 mt:hZ
 al:FuncId→Bool
 pu:FuncId→Bool
 orc:FuncId→Nat→Option (List (Nat×Nat))
 Fa:List (FuncId×List CV×CV)
 mi:List MI:=[]
 ei:List EI:=[]
def knl:List (FuncId×List CV×CV)→FuncId→List CV→Option CV
 | [],_,_=>none
 | (h,ds,r)::l,g,cs=>if (h == g && sd ds cs)=true then some r else knl l g cs
abbrev oF:=FuncId→List CV→Option CV
def Ci (I:IP)(n0 nt:Nat)(ops:Array Oper)(call:fL)(pcall:oF)(o:Oper)(s:St):Option St:=
 match cg o with
 | none=>match gv I.av nt ops s o with
  | some s'=>some s'
  | none=>match b9 ops s o with
   | some true=>if bt nt o.dst=true then match CW n0 I.av s o with
     | some s'=>some s'
     | none=>match G7 I.mi n0 s o with
      | some s'=>some s'
      | none=>match HT I.ei s o with
       | some s'=>some s'
       | none=>Iz I.av s o
    else none
   | _=>none
 | some c=>match b9 ops s o with
  | some true=>if bt nt o.dst=true then match iF I.mt s c with
    | some (g,cs)=>match (if trees cs then pcall g cs else none) with
     | some r=>some (s.put o.dst r)
     | none=>match call g cs s.heap s.nx with
      | some (x,H,n)=>some (St.put ⟨s.env,H,n⟩ o.dst x)
      | none=>none
    | none=>none
   else none
  | _=>gv I.av nt ops s o
def Aq (I:IP)(n0 nt:Nat)(ops:Array Oper)(call:fL)(pcall:oF):List Oper→St→Option St
 | [],s=>some s
 | o::r,s=>match Ci I n0 nt ops call pcall o s with
  | some s'=>Aq I n0 nt ops call pcall r s'
  | none=>none
def drX (I:IP)(call:fL)(pcall:oF)(g:FuncId)(_n0 nt:Nat)(id:Nat)(ops:Array Oper)(s:St):Option St:=match I.orc g id with
 | none=>none
 | some dyn=>Kt I.av I.mt nt ops call pcall (List.range ops.size) dyn s
def Mo (I:IP)(g:FuncId)(id:Nat)(ops:Array Oper)(d:Bool):Bool:=!d || match I.orc g id with
 | some dyn=>ur ops false (List.range ops.size) dyn
 | none=>true
def GF (I:IP)(call:fL)(pcall:oF)(g:FuncId)(n0 nt:Nat)(id:Nat)(ops:Array Oper)(d:Bool)(s:St):Option St:=
 if d then drX I call pcall g n0 nt id ops s else Aq I n0 nt ops call pcall ops.toList s
def vA (I:IP)(go:FuncId→List CV→List (Nat×Ob)→Nat→Option (Func×St)):fL:=fun g cs H n=>match go g cs H n with
 | some (fn,s)=>match bm I.av fn s with
  | some r=>some (r,s.heap,s.nx)
  | none=>none
 | none=>none
def rM (I:IP)(go:FuncId→List CV→List (Nat×Ob)→Nat→Option (Func×St)):oF:=fun g cs=>match knl I.Fa g cs with
 | some r=>some r
 | none=>if I.pu g then match go g cs [] 0 with
  | some (fn,s)=>match bm I.av fn s with
   | some r=>deep s.heap 60 r
   | none=>none
  | none=>none
  else none
def aY (P:Program)(I:IP):Nat→FuncId→List CV→List (Nat×Ob)→Nat→Option (Func×St)
 | 0,_,_,_,_=>none
 | f+1,g,cs,H,n=>match P.funcs[g]? with
  | none=>none
  | some fn=>match fn.body with
   | none=>none
   | some c => if (fn.name == "runtime.NumGoroutine") = false ∧ cs.length ≤ fn.ntmps ∧ I.al g = true then
     match mP (GF I (vA I (aY P I f)) (rM I (aY P I f)) g n fn.ntmps) f c ⟨(enter cs).env,H,n⟩ with
     | some (.normal,s')=>some (fn,s')
     | some (.ret,s')=>some (fn,s')
     | _=>none
    else none
section
variable {P:Program}{C:Cx}{s:St}{I:IP}{ops:Array Oper}{call:fL}{pcall:oF}
structure La (P:Program)(I:IP):Prop where
 kn:∀ x∈I.Fa,ae P x.1 x.2.1 x.2.2
 av:aF P I.av
 mt:iN P I.mt
 mi:MU P I.mi
 ei:MW P I.ei
 md:P.follows .mixedOrders=true
 gd:∀ g fn c,I.al g=true→P.funcs[g]? = some fn→fn.body=some c→gG (Mo I g) c=true
theorem EX (hI:La P I)(hc:gx P I.av call)(hp:wA P pcall){o:Oper}{l:List Oper}{s':St}{K:St→Prop}(h:Ci I C.n0 C.nt ops call pcall o s=some s')(hk:TL P C ops l s' K):TL P C ops (o::l) s K:=by
 unfold Ci at h;split at h
 ·split at h
  ·rename_i s1 h1;cases h;exact TL.step hI.av h1 hk
  ·split at h
   ·rename_i hg;split at h
    ·rename_i hd;split at h
     ·rename_i s1 h1;cases h;exact kA hg (zm hI.av hd h1) hk
     ·split at h
      ·rename_i s1 h1;cases h;exact kA hg (G6 hI.mi hd h1) hk
      ·split at h
       ·rename_i s1 h1;cases h;exact kA hg (HS hI.ei hd h1) hk
       ·exact kA hg (Iy hI.av hd h) hk
    ·cases h
   ·cases h
 ·rename_i c hu;have Ol:=gD hu;split at h
  ·rename_i hg;split at h
   ·rename_i hd;split at h
    ·rename_i g cs OG;split at h
     ·rename_i r hr;cases h;split at hr
      ·rename_i ht;have hP:=hp g cs r hr;exact KA hd hg (pf.to hI.mt Ol OG hP.1) ht hP hk
      ·cases hr
     ·split at h
      ·rename_i x H n hx;cases h;have hB:=hc _ _ _ _ _ _ _ hx;have hE:lq P g:=by
        obtain⟨fn,c,h1,h2,h3,_⟩:=hB;exact⟨fn,h1,h3,by simp[h2]⟩
       refine callE hI.av hd hg (pf.to hI.mt Ol OG hE) hB ?_;rintro r s1 ⟨rfl,rfl,rfl⟩;exact hk
      ·cases h
    ·cases h
   ·cases h
  ·exact TL.step hI.av h hk
theorem Ap (hI:La P I)(hc:gx P I.av call)(hp:wA P pcall):∀ (l:List Oper) (s s':St),Aq I C.n0 C.nt ops call pcall l s=some s'→TL P C ops l s fun x=>x=s'
 | [],s,s',h=>by
  simp only[Aq] at h;cases h;exact TL.nil rfl
 | o::r,s,s',h=>by
  simp only[Aq] at h;split at h
  ·rename_i s1 h1;exact EX hI hc hp h1 (Ap hI hc hp r s1 s' h)
  ·cases h
theorem Mq (hI:La P I)(hc:gx P I.av call)(hp:wA P pcall)(g:FuncId)(id:Nat)(ops:Array Oper)(s s':St)(hg:Mo I g id ops true=true)(h:drX I call pcall g C.n0 C.nt id ops s=some s'):T P C (.region id ops true) s fun e x=>e=.normal∧x=s':=by
 unfold drX at h;unfold Mo at hg;split at h
 ·cases h
 ·rename_i dyn ho;rw[ho] at hg;exact T.trace hI.av hI.mt hc hp hI.md (by simpa using hg) h
theorem Jn (hI:La P I)(hc:gx P I.av call)(hp:wA P pcall)(g:FuncId):IJ P C (Mo I g) (GF I call pcall g C.n0 C.nt):=by
 intro id ops d s s' hg h;unfold GF at h
 cases d with
 | true=>exact Mq hI hc hp g id ops s s' hg QW
 | false=>
  have hl:=Ap (ops:=ops.toList.toArray) hI hc hp ops.toList s s' QW
  simpa using TL.again (id:=id) hl
def MV (P : Program) (go : FuncId → List CV → List (Nat × Ob) → Nat → Option (Func × St)) : Prop := ∀ g cs H n fn s', go g cs H n = some (fn, s') → ∃ c, P.funcs[g]? = some fn ∧ fn.body = some c ∧ (fn.name == "runtime.NumGoroutine") = false ∧ cs.length ≤ fn.ntmps ∧
 ∀ C:Cx,C.nt=fn.ntmps→C.n0=n→T P C c ⟨(enter cs).env,H,n⟩ fun e x=>(e=.normal∨e=.ret)∧x=s'
theorem FA {go:FuncId→List CV→List (Nat×Ob)→Nat→Option (Func×St)}(h:MV P go):gx P I.av (vA I go):=by
 intro g cs H n x H' n' hx;unfold vA at hx;split at hx
 ·rename_i fn s' hg;split at hx
  ·rename_i r hr;cases hx;obtain⟨c,h1,h2,h3,h4,h5⟩:=h _ _ _ _ _ _ hg;refine Body.iV h1 h2 h3 h4 fun C hC N8=>T.mono (h5 C hC N8) ?_;rintro e x ⟨rfl | rfl,rfl⟩<;>exact aa.here ⟨_,hr,rfl,rfl,rfl⟩
  ·cases hx
 ·cases hx
theorem DA:∀ (l:List (FuncId×List CV×CV)) (g:FuncId) (cs:List CV) (r:CV),knl l g cs=some r→(g,cs,r)∈l
 | [],_,_,_,h=>by simp[knl] at h
 | (h',ds,r')::l,g,cs,r,h=>by
  simp only[knl] at h;split at h
  ·rename_i e;simp only[Bool.and_eq_true,beq_iff_eq] at e;cases h;rw[jv _ _ e.2,e.1];exact List.mem_cons_self
  ·exact List.mem_cons_of_mem _ (DA l g cs r h)
theorem wZ (ht:aF P I.av)(hk:∀ x∈I.Fa,ae P x.1 x.2.1 x.2.2){go:FuncId→List CV→List (Nat×Ob)→Nat→Option (Func×St)}(h:MV P go):wA P (rM I go):=by
 intro g cs r hx;unfold rM at hx;split at hx
 ·rename_i r' WN;cases hx;exact hk _ (DA _ _ _ _ WN)
 ·split at hx
  ·split at hx
   ·rename_i fn s' hg;split at hx
    ·rename_i r0 hr;obtain⟨c,h1,h2,h3,h4,h5⟩:=h _ _ _ _ _ _ hg;refine ae.JF ht h1 h2 h3 h4 fun C hC N8=>T.mono (h5 C hC N8) ?_;rintro e x ⟨rfl | rfl,rfl⟩<;>exact⟨r0,60,hr,hx⟩
    ·cases hx
   ·cases hx
  ·cases hx
theorem HF (hI:La P I):∀ f,MV P (aY P I f)
 | 0=>fun _ _ _ _ _ _ h=>by simp[aY] at h
 | f+1=>fun g cs H n fn s' h=>by
  have ih:=HF hI f;simp only[aY] at h;split at h
  ·cases h
  ·rename_i fn' hf;split at h
   ·cases h
   ·rename_i c hb;split at h
    ·rename_i UA
     cases hx:mP (GF I (vA I (aY P I f)) (rM I (aY P I f)) g n fn'.ntmps) f c ⟨(enter cs).env,H,n⟩ with
     | none=>rw[hx] at h;cases h
     | some q=>
      rw[hx] at h;obtain⟨e3,s1⟩:=q;have hT:∀ C:Cx,C.nt=fn'.ntmps→C.n0=n→T P C c ⟨(enter cs).env,H,n⟩ fun e x=>e=e3∧x=s1:=fun C hC N8=>by
       have hR:IJ P C (Mo I g) (GF I (vA I (aY P I f)) (rM I (aY P I f)) g C.n0 C.nt):=Jn hI (FA ih) (wZ hI.av hI.kn ih) g;rw[hC,N8] at hR;exact T.mono (DU hR f c _ _ (hI.gd g fn' c UA.2.2 hf hb) hx) fun e x he=>he
      cases e3<;>simp only at h<;>first | cases h | skip
      all_goals
       exact⟨c,hf,hb,UA.1,UA.2.1,fun C hC N8=>T.mono (hT C hC N8) fun e x he=>⟨by simp[he.1],he.2⟩⟩
    ·cases h
theorem ef (hI:La P I)(f:Nat){g:FuncId}{cs:List CV}{r:CV}(h:rM I (aY P I f) g cs=some r):ae P g cs r:=wZ hI.av hI.kn (HF hI f) g cs r h
end
def AB (P:Program)(I:IP)(l:List Nat):Bool:=l.all fun g=>match P.funcs[g]? with
 | some fn=>match fn.body with
  | some c=>gG (Mo I g) c
  | none=>true
 | none=>true
theorem Ff {P:Program}(I:IP)(Fa:List (FuncId×List CV×CV))(l:List Nat):AB P { I with Fa:=Fa } l=AB P I l:=rfl
theorem AA {P:Program}{I:IP}{l:List Nat}(h:AB P I l=true)(hl:∀ g,I.al g=true→g∈l):∀ g fn c,I.al g=true→P.funcs[g]? = some fn→fn.body=some c→gG (Mo I g) c=true:=fun g fn c ha hf hb=>by
 have:=List.all_eq_true.1 h g (hl g ha);simp only[hf,hb] at this;exact this
def Hb (P:Program)(t:Nat)(name:String)(g:FuncId):Bool:=match P.info? t with
 | some i=>match i.methods.find? (·.name == name) with
  | some m=>match m.path.toList,m.func with
   | [],some (h,false)=>h == g && match P.underlying t with
    | some (.pointer _)=>false
    | some _=>true
    | none=>false
   | _,_=>false
  | none=>false
 | none=>false
theorem Ha {P:Program}{t:Nat}{name:String}{g:FuncId}(h:Hb P t name g=true):zg P t name g:=by
 unfold Hb at h;split at h
 ·rename_i i hi;split at h
  ·rename_i m hm;split at h
   ·rename_i k hp hf;simp only[Bool.and_eq_true,beq_iff_eq] at h;obtain⟨rfl,h2⟩:=h;refine⟨⟨i,m,hi,hm,hp,by rw[Array.isEmpty_iff_size_eq_zero,← Array.length_toList,hp];rfl,hf⟩,?_⟩;split at h2
    ·cases h2
    ·rename_i d hn hd;exact⟨d,hd,fun e he=>hn e (by rw[he])⟩
    ·cases h2
   ·cases h
  ·cases h
 ·cases h
def Du (P:Program)(mt:hZ):Bool:=mt.all fun x=>Hb P x.1.1 x.1.2 x.2
theorem py {P:Program}{mt:hZ}(h:Du P mt=true):iN P mt:=fun x hx=>Ha (List.all_eq_true.1 h x hx)
end Go.Can
