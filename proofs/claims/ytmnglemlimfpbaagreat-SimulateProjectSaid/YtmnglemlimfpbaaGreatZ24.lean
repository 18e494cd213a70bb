/- Name; Lex accepts what is right for it. -/
import Derived.Test.YtmnglemlimfpbaaGreatZ23
namespace Go.Proofs.YtmnglemlimfpbaaGreat
open Go.Can Go.aX
theorem Lq (s:ByteArray)(i:Nat):s[i]? = (bs s)[i]?:=by
 by_cases h:i<s.size
 ·rw[getElem?_pos s i h,List.getElem?_eq_getElem (by simpa [bs] using h)]
  simp[bs]
  rfl
 ·rw[getElem?_neg s i h,List.getElem?_eq_none (by simpa [bs] using h)]
theorem lE (s:ByteArray):(bs s).length=s.size:=by simp[bs]
theorem jH (s:ByteArray)(h:dm s)(hr:bs s∉q9):ae Tryz.prog 89 [.str s] (.bool true):=by
 obtain⟨⟨c0,t0,hc0,hl0⟩,h1,h2⟩:=h
 have hsz:=lE s
 have hpos:1≤s.size:=by rw[← hsz,hc0];simp
 refine ae.aB ag Tryz.func89 rfl yAb (by simp[Tryz.ntmps89]) rfl fun C hC hC0=>?_
 rw[Tryz.ntmps89] at hC
 apply au
 simp[hC]
 apply aJ
 simp[hC]
 apply T.block
 refine T.aL (fun m st=>∃ i:Nat,m=s.size-i∧i≤s.size∧st=⟨[(3,I i),(0,.str s)],[],0⟩) (n:=s.size) ?_ ?_
 ·refine aa.le (Le.env [3,0]) (aa.here ⟨0,by omega,by omega,?_⟩)
  simp
 ·rintro n st ⟨i,rfl,hi,rfl⟩
  by_cases hil:i<s.size
  ·obtain⟨c,hc⟩:∃ c,(bs s)[i]? = some c:=⟨(bs s)[i],List.getElem?_eq_getElem yA⟩
   have hg:s[i]? = some c:=by rw[Lq];exact hc
   have hid:fG c=true:=List.all_eq_true.1 h1 c (List.mem_of_getElem? hc)
   have hw:=ct ((i:Int)+1) yA yA
   apply aJ
   simp[hC,hil]
   refine iv ?_
   simp
   apply fq
   refine T.cut (fun st=>st=⟨[(25,.bool false),(3,I i),(0,.str s)],[],0⟩) ?_ ?_
   ·have hgi:s[i]=c:=by
     have:=hg
     rw[getElem?_pos s i hil] at this
     simpa using this
    cases hlt:isLet c with
    | true=>
     have hcl:=lQ c
     rw[hlt] at hcl
     apply aO
     simp[hC,hil,hgi]
     refine cH yAd (hcl) ?_
     simp[hC]
     refine aa.le (Le.env [25,3,0]) (aa.here ?_)
     simp
    | false=>
     have hcl:=lQ c
     rw[hlt] at hcl
     have hdg:db c=true:=by simpa [fG,hlt] using hid
     have hcd:=lX c
     rw[hdg] at hcd
     have hi0:¬ i=0:=by
      intro h
      subst h
      rw[hc0] at hc
      simp only[List.getElem?_cons_zero,Option.some.injEq] at hc
      subst hc
      rw[hl0] at hlt
      cases hlt
     apply aO
     simp[hC,hil,hgi]
     refine cH yAd (hcl) ?_
     simp[hC,hi0,hil,hgi]
     refine TL.cC yAc rfl rfl rfl rfl (bF.of rfl yAd (hcd)) (TL.go' ag ?_)
     simp[hC]
     refine aa.le (Le.env [25,3,0]) (aa.here ?_)
     simp
   ·rintro st rfl
    refine bj ?_
    simp
    apply T.skip
    simp
    apply aO
    simp[hC,hw]
    refine⟨s.size-(i+1),by omega,?_⟩
    refine aa.le (Le.env [3,0]) (aa.here ⟨i+1,rfl,by omega,?_⟩)
    simp
  ·apply aJ
   simp[hC,hil]
   refine bj ?_
   simp
   apply T.exit
   simp
   have g1:(1:Int)≤s.size:=by omega
   have g2:(s.size:Int)≤16:=by omega
   have hcr:=rU s
   simp only[hr,decide_false] at hcr
   apply au
   simp[hC,g1,g2]
   refine TL.cC yAc rfl rfl rfl rfl (bF.of rfl yAd (hcr)) (TL.go' ag ?_)
   simp[hC]
   apply T.ret
   apply aa.here
   simp[Tryz.results89]
theorem Fc {p:UInt8→Bool}:∀ {L:List UInt8} {j:Nat},j<(L.takeWhile p).length→∃ c,L[j]? = some c∧p c=true
 | [],j,h=>by simp at h
 | a::r,j,h=>by
  cases ha:p a with
  | false=>rw[List.takeWhile_cons,ha] at h;simp at h
  | true=>
   cases j with
   | zero=>exact⟨a,rfl,ha⟩
   | succ j=>
    rw[List.takeWhile_cons,ha] at h
    simp only[if_true,List.length_cons] at h
    obtain⟨c,h1,h2⟩:=Fc (p:=p) (L:=r) (j:=j) yA
    exact⟨c,by simpa using h1,h2⟩
theorem Bv {p:UInt8→Bool}:∀ {L:List UInt8} {c:UInt8},L[(L.takeWhile p).length]? = some c→p c=false
 | [],c,h=>by simp at h
 | a::r,c,h=>by
  cases ha:p a with
  | false=>
   rw[List.takeWhile_cons,ha] at h
   simp at h
   subst h;exact ha
  | true=>
   rw[List.takeWhile_cons,ha] at h
   simp only[if_true,List.length_cons,List.getElem?_cons_succ] at h
   exact Bv (L:=r) h
theorem zk {p:UInt8→Bool}:∀ L:List UInt8,(L.takeWhile p).length≤L.length∧L.dropWhile p=L.drop (L.takeWhile p).length∧L.take (L.takeWhile p).length=L.takeWhile p
 | []=>⟨Nat.le_refl _,rfl,rfl⟩
 | a::r=>by
  cases ha:p a with
  | false=>simp[ha]
  | true=>
   obtain⟨h1,h2,h3⟩:=zk (p:=p) r
   simp[ha,h2,h3]
   exact h1
theorem Lx.ncm {l:List UInt8}{n:Nat}(h:Lx l n):∀ r,l=47::r→r.head?≠some 47:=by
 rintro r rfl
 obtain⟨m,_,h1 | h1 | h1⟩:=Lx.inv h yAe
 ·exact absurd h1.1 yAe
 ·exact absurd h1.2.1 yAe
 ·exact h1.2.2.1 rfl
theorem Kf:∀ L:List UInt8,sT L≤L.length
 | []=>Nat.le_refl _
 | [a]=>by
  simp only[sT]
  split<;>simp
 | a::b::r=>by
  simp only[sT,List.length_cons]
  split
  ·omega
  ·split<;>omega
def LexG (r:CV):Prop:=∃ (cs:List CV) (n:Nat) (e:Nat),r=.cr [.av cs n,I e,.int .i64 0]
def lJ (cs:List CV):Ob:=⟨172,4,cs⟩
def J66 (l:List UInt8)(n:Nat)(s:St):Prop:=∃ (a:Nat) (cs:List CV) (k m:Nat),n=l.length-a∧a≤l.length∧k+m≤4000∧Lx (l.drop a) m∧(∀ c,(l.drop a).head? = some c→iM c=false)∧cs.length=k*4∧trees cs=true∧
 s=⟨[(6,I a),(5,.bx 0 0 k),(0,dG l)],[(0,lJ cs)],1⟩
set_option maxHeartbeats 4000000 in
theorem KQ (l:List UInt8)(hl:l.length≤262144)(hx:Lx l 4000):l8 Tryz.prog 66 [dG l] LexG:=by
 refine l8.j5 ag Tryz.func66 rfl yAb (by simp[Tryz.ntmps66]) fun C hC hC0=>?_
 rw[Tryz.ntmps66] at hC
 apply au
 simp[hC]
 have hl2:¬ (262144:Int)<l.length:=by omega
 apply aJ
 simp[hC,dG,hl2]
 refine bj ?_
 simp
 apply T.skip
 simp
 apply au
 simp[hC]
 have hs0:=CD l 0 (Nat.zero_le _) yA (fun r hr=>by
  have:=hx.skip
  simp only[List.drop_zero,Nat.zero_add] at hr this
  exact Lx.ncm this r hr)
 simp only[List.drop_zero,Nat.zero_add] at hs0
 have hx0:=hx.skip
 have hsp0:∀ c,(l.drop (qL l)).head? = some c→iM c=false:=fun c hc=>zB hc
 have hle0:qL l≤l.length:=by
  unfold qL
  exact (zk (p:=iM) l).1
 generalize qL l=a0 at hs0 hx0 hsp0 hle0
 apply au
 simp[hC]
 refine cH yAd (hs0) ?_
 simp[hC]
 apply T.block
 refine T.aL (J66 l) (n:=l.length-a0) ?_ ?_
 ·refine aa.le (Le.own 5 172 4 rfl) ?_
  simp
  refine aa.trim [6,5,0] [0] 1 yAa yA ⟨a0,[],0,4000,rfl,hle0,by omega,hx0,hsp0,rfl,rfl,?_⟩
  simp[dG,lJ]
 ·rintro n st ⟨a,cs,k,m,rfl,hal,hkm,hxa,hsp,hcl,htr,rfl⟩
  apply fq
  by_cases hend:a=l.length
  ·apply aJ
   simp[hC,dG,hend]
   refine dN ?_
   simp
   have hb:(k+1)*40≤140737488355328:=by omega
   have hsz:(lJ cs).sz=4:=rfl
   have hel:(lJ cs).elem=172:=rfl
   have hcl':(lJ cs).cells.length=k*4:=hcl
   apply au
   simp[hC,hb,hsz,hel,hcl',aI]
   apply T.ret
   have htr2:trees ((lJ cs).cells++[CV.int .i64 5,.str ⟨#[]⟩,.int .i64 0,.int .i64 l.length])=true:=by rw[aC];simp only[lJ,htr];rfl
   refine aa.le (Le.cG (o:=2) rfl htr2) ?_
   simp[cL]
   refine aa.here ⟨_,rfl,rfl,_,_,_,rfl⟩
  ·have hlt:a<l.length:=by omega
   have hne:¬ (a:Int)=l.length:=by omega
   obtain⟨c,hc⟩:∃ c,l[a]? = some c:=⟨l[a],List.getElem?_eq_getElem hlt⟩
   have hdr:=lC hc
   have hd:=ig hc
   rw[hd] at hxa hsp
   have hcs:=hsp c rfl
   obtain⟨m',rfl,hcases⟩:=Lx.inv hxa hcs
   rw[← hd] at hcases
   apply aJ
   simp[hC,dG,hend]
   refine bj ?_
   simp
   apply T.skip
   simp
   apply au
   simp[hC]
   apply au
   simp[hC]
   refine T.le (Le.trim [8,7,6,5,0] [0,1] 2 yAw yA) ?_
   simp
   refine T.cut (fun s=>∃ (kind num:Int) (e:Nat),Lx (l.drop e) m'∧a<e∧e≤l.length∧s=⟨[(8,I e),(7,.aw 1 0),(6,I a),(5,.bx 0 0 k),(0,dG l)],[(0,lJ cs),(1,⟨172,0,[.int .i64 kind,.str ⟨#[]⟩,.int .i64 num,I a]⟩)],2⟩) ?_ ?_
   ·apply T.block
    apply au
    simp[hC,hlt,hdr]
    refine cH yAd (lQ c) ?_
    simp[hC]
    refine T.bg rfl (fun h=>?_) (fun h=>?_)
    ·have h1:isLet c=true:=by simpa using h
     obtain⟨_,hw16,hxw⟩:isLet c=true∧(((l.drop a).takeWhile fG).length≤16∨(l.drop a).takeWhile fG∈q9)∧Lx ((l.drop a).dropWhile fG) m':=by
      rcases hcases with h | h | h
      ·exact h
      ·rw[h1] at h;simp at h
      ·rw[h1] at h;simp at h
     obtain⟨t1,t2,t3⟩:=zk (p:=fG) (l.drop a)
     rw[t2,List.drop_drop] at hxw
     have hwpos:0<((l.drop a).takeWhile fG).length:=by
      rw[hd,List.takeWhile_cons]
      simp[fG,h1]
     have htin:=@Fc fG (l.drop a)
     have htout:=@Bv fG (l.drop a)
     generalize hW:(l.drop a).takeWhile fG=W at *
     have hWl:a+W.length≤l.length:=by simp at t1;omega
     refine T.cut (fun s=>s=⟨[(8,I ((a+W.length:Nat))),(7,.aw 1 0),(6,I a),(5,.bx 0 0 k),(0,dG l)],[(0,lJ cs),(1,⟨172,0,[.int .i64 0,.str ⟨#[]⟩,.int .i64 0,I a]⟩)],2⟩) ?_ ?_
     ·apply T.block
      refine T.aL (fun n s=>∃ j:Nat,n=W.length-j∧j≤W.length∧s=⟨[(8,I ((a+j:Nat))),(7,.aw 1 0),(6,I a),(5,.bx 0 0 k),(0,dG l)],[(0,lJ cs),(1,⟨172,0,[.int .i64 0,.str ⟨#[]⟩,.int .i64 0,I a]⟩)],2⟩) (n:=W.length) ?_ ?_
      ·refine aa.trim [8,7,6,5,0] [0,1] 2 yAw yA ⟨0,by omega,by omega,?_⟩
       simp[dG]
      ·rintro n s ⟨j,rfl,hjl,rfl⟩
       obtain⟨e,he⟩:∃ e,a+j=e:=⟨_,rfl⟩
       rw[he]
       by_cases hj:j<W.length
       ·obtain⟨c2,hc2,hp2⟩:=htin hj
        rw[List.getElem?_drop,he] at hc2
        have hdr2:=lC hc2
        have hel:e<l.length:=(List.getElem?_eq_some_iff.1 hc2).1
        have hw:=ct ((e:Int)+1) yA yA
        have hcl2:=lQ c2
        have hcd2:=lX c2
        cases hlt2:isLet c2 with
        | true=>
         rw[hlt2] at hcl2
         apply aJ
         simp[hC,dG,hel,hdr2]
         refine TL.cC yAc rfl rfl rfl rfl (bF.of rfl yAd (hcl2)) (TL.go' ag ?_)
         simp[hC]
         refine iv ?_
         simp
         apply T.block
         apply aO
         simp[hC,hw]
         refine⟨W.length-(j+1),by omega,?_⟩
         refine aa.trim [8,7,6,5,0] [0,1] 2 yAw yA ⟨j+1,rfl,by omega,?_⟩
         simp
         omega
        | false=>
         rw[hlt2] at hcl2
         have hdg2:db c2=true:=by simpa [fG,hlt2] using hp2
         rw[hdg2] at hcd2
         apply aJ
         simp[hC,dG,hel,hdr2]
         refine TL.cC yAc rfl rfl rfl rfl (bF.of rfl yAd (hcl2)) (TL.go' ag ?_)
         simp[hC,hel,hdr2]
         refine TL.cC yAc rfl rfl rfl rfl (bF.of rfl yAd (hcd2)) (TL.go' ag ?_)
         simp[hC]
         refine iv ?_
         simp
         apply T.block
         apply aO
         simp[hC,hw]
         refine⟨W.length-(j+1),by omega,?_⟩
         refine aa.trim [8,7,6,5,0] [0,1] 2 yAw yA ⟨j+1,rfl,by omega,?_⟩
         simp
         omega
       ·have hje:j=W.length:=by omega
        by_cases hel:e<l.length
        ·obtain⟨c2,hc2⟩:∃ c,l[e]? = some c:=⟨l[e],List.getElem?_eq_getElem hel⟩
         have hp2:fG c2=false:=htout (by rw[List.getElem?_drop,← hje,he];exact hc2)
         have hdr2:=lC hc2
         have hcl2:=lQ c2
         have hcd2:=lX c2
         have hp3:isLet c2=false∧db c2=false:=by simpa [fG] using hp2
         rw[hp3.1] at hcl2
         rw[hp3.2] at hcd2
         apply aJ
         simp[hC,dG,hel,hdr2]
         refine TL.cC yAc rfl rfl rfl rfl (bF.of rfl yAd (hcl2)) (TL.go' ag ?_)
         simp[hC,hel,hdr2]
         refine TL.cC yAc rfl rfl rfl rfl (bF.of rfl yAd (hcd2)) (TL.go' ag ?_)
         simp[hC]
         refine bj ?_
         simp
         apply T.exit
         simp
         refine aa.trim [8,7,6,5,0] [0,1] 2 yAw yA ?_
         simp
         omega
        ·apply aJ
         simp[hC,dG,hel]
         refine bj ?_
         simp
         apply T.exit
         simp
         refine aa.trim [8,7,6,5,0] [0,1] 2 yAw yA ?_
         simp
         omega
     ·rintro s rfl
      obtain⟨e,he⟩:∃ e,a+W.length=e:=⟨_,rfl⟩
      rw[he] at hxw ⊢
      have k1:a≤e:=by omega
      have k2:e≤l.length:=by omega
      have k3:e-a=W.length:=by omega
      have hsub:List.take W.length (List.drop a (l.map fun x=>CV.int .u8 (x.toNat:Int)))=W.map fun x=>CV.int .u8 (x.toNat:Int):=by
       rw[← List.map_drop,← List.map_take,t3]
      have hmin:min W.length (l.length-a)=W.length:=by omega
      have hbW:=n9 W
      have hWe:bs ⟨W.toArray⟩=W:=bs_mk W
      apply au
      simp[hC]
      have hcr:=rU ⟨W.toArray⟩
      rw[hWe] at hcr
      have wk:IntKind.i64.wrap ((e:Int)-a)=(W.length:Int):=by rw[ct _ yA yA];omega
      refine T.seq (T.Bl ag ?_)
      simp[hC,dG,k1,k2,hsub,hbW,k3]
      refine cH yAd (hcr) ?_
      simp
      refine T.bg rfl (fun h=>?_) (fun h=>?_)
      ·apply aO
       simp[hC]
       refine aa.trim [8,7,6,5,0] [0,1] 2 yAw yA ⟨3,0,e,hxw,by omega,k2,?_⟩
       simp
      ·have hnr:W∉q9:=by simpa using h
       have h16:W.length≤16:=hw16.resolve_right hnr
       have h16':¬ (16:Int)<W.length:=by omega
       apply au
       simp[hC,wk,h16']
       refine bj ?_
       simp
       apply T.skip
       simp
       refine aa.trim [8,7,6,5,0] [0,1] 2 yAw yA ⟨1,0,e,hxw,by omega,k2,?_⟩
       simp
    ·have h1:isLet c=false:=by simpa using h
     refine T.le (Le.trim [8,7,6,5,0] [0,1] 2 yAw yA) ?_
     simp
     apply au
     simp[hC,hlt,hdr]
     refine cH yAd (lX c) ?_
     simp[hC]
     refine T.bg rfl (fun h=>?_) (fun h=>?_)
     ·have h2:db c=true:=by simpa using h
      obtain⟨_,_,hv63,hxw⟩:isLet c=false∧db c=true∧lq ((l.drop a).takeWhile db)<9223372036854775808∧Lx ((l.drop a).dropWhile db) m':=by
       rcases hcases with h | h | h
       ·rw[h1] at h;simp at h
       ·exact h
       ·rw[h2] at h;simp at h
      obtain⟨t1,t2,t3⟩:=zk (p:=db) (l.drop a)
      rw[t2,List.drop_drop] at hxw
      have hwpos:0<((l.drop a).takeWhile db).length:=by
       rw[hd,List.takeWhile_cons]
       simp[h2]
      have hall:((l.drop a).takeWhile db).all db=true:=List.all_takeWhile
      have htin:=@Fc db (l.drop a)
      have htout:=@Bv db (l.drop a)
      generalize hW:(l.drop a).takeWhile db=W at *
      have hWl:a+W.length≤l.length:=by simp at t1;omega
      refine T.cut (fun s=>s=⟨[(8,I ((a+W.length:Nat))),(7,.aw 1 0),(6,I a),(5,.bx 0 0 k),(0,dG l)],[(0,lJ cs),(1,⟨172,0,[.int .i64 0,.str ⟨#[]⟩,.int .i64 0,I a]⟩)],2⟩) ?_ ?_
      ·apply T.block
       refine T.aL (fun n s=>∃ j:Nat,n=W.length-j∧j≤W.length∧s=⟨[(8,I ((a+j:Nat))),(7,.aw 1 0),(6,I a),(5,.bx 0 0 k),(0,dG l)],[(0,lJ cs),(1,⟨172,0,[.int .i64 0,.str ⟨#[]⟩,.int .i64 0,I a]⟩)],2⟩) (n:=W.length) ?_ ?_
       ·refine aa.trim [8,7,6,5,0] [0,1] 2 yAw yA ⟨0,by omega,by omega,?_⟩
        simp[dG]
       ·rintro n s ⟨j,rfl,hjl,rfl⟩
        obtain⟨e,he⟩:∃ e,a+j=e:=⟨_,rfl⟩
        rw[he]
        by_cases hj:j<W.length
        ·obtain⟨c2,hc2,hp2⟩:=htin hj
         rw[List.getElem?_drop,he] at hc2
         have hdr2:=lC hc2
         have hel:e<l.length:=(List.getElem?_eq_some_iff.1 hc2).1
         have hw:=ct ((e:Int)+1) yA yA
         have hcd2:=lX c2
         rw[hp2] at hcd2
         apply aJ
         simp[hC,dG,hel,hdr2]
         refine TL.cC yAc rfl rfl rfl rfl (bF.of rfl yAd (hcd2)) (TL.go' ag ?_)
         simp[hC]
         refine iv ?_
         simp
         apply T.block
         apply aO
         simp[hC,hw]
         refine⟨W.length-(j+1),by omega,?_⟩
         refine aa.trim [8,7,6,5,0] [0,1] 2 yAw yA ⟨j+1,rfl,by omega,?_⟩
         simp
         omega
        ·have hje:j=W.length:=by omega
         by_cases hel:e<l.length
         ·obtain⟨c2,hc2⟩:∃ c,l[e]? = some c:=⟨l[e],List.getElem?_eq_getElem hel⟩
          have hp2:db c2=false:=htout (by rw[List.getElem?_drop,← hje,he];exact hc2)
          have hdr2:=lC hc2
          have hcd2:=lX c2
          rw[hp2] at hcd2
          apply aJ
          simp[hC,dG,hel,hdr2]
          refine TL.cC yAc rfl rfl rfl rfl (bF.of rfl yAd (hcd2)) (TL.go' ag ?_)
          simp[hC]
          refine bj ?_
          simp
          apply T.exit
          simp
          refine aa.trim [8,7,6,5,0] [0,1] 2 yAw yA ?_
          simp
          omega
         ·apply aJ
          simp[hC,dG,hel]
          refine bj ?_
          simp
          apply T.exit
          simp
          refine aa.trim [8,7,6,5,0] [0,1] 2 yAw yA ?_
          simp
          omega
      ·rintro s rfl
       obtain⟨e,he⟩:∃ e,a+W.length=e:=⟨_,rfl⟩
       rw[he] at hxw ⊢
       have k1:a≤e:=by omega
       have k2:e≤l.length:=by omega
       have k3:e-a=W.length:=by omega
       have hsub:List.take W.length (List.drop a (l.map fun x=>CV.int .u8 (x.toNat:Int)))=W.map fun x=>CV.int .u8 (x.toNat:Int):=by
        rw[← List.map_drop,← List.map_take,t3]
       have hcn:=vQ W yA hall hv63
       have hnn:¬ ((lq W:Int)<0):=by omega
       apply au
       simp[hC,dG,k1,k2,hsub,k3]
       simp only[dG] at hcn
       refine cH yAd (hcn) ?_
       simp[hC]
       apply au
       simp[hC,hnn]
       refine bj ?_
       simp
       apply T.skip
       simp
       refine aa.trim [8,7,6,5,0] [0,1] 2 yAw yA ⟨2,lq W,e,hxw,by omega,k2,?_⟩
       simp
     ·have h2:db c=false:=by simpa using h
      obtain⟨hsp0,hxw⟩:0<sT (l.drop a)∧Lx ((l.drop a).drop (sT (l.drop a))) m':=by
       rcases hcases with h | h | h
       ·rw[h1] at h;simp at h
       ·rw[h2] at h;simp at h
       ·exact⟨h.2.2.2.1,h.2.2.2.2⟩
      have hcg:=H9 l a hlt yA
      have hsle:a+sT (l.drop a)≤l.length:=by
       have h2:=Kf (l.drop a)
       rw[List.length_drop] at h2
       omega
      rw[List.drop_drop] at hxw
      generalize sT (l.drop a)=g at hcg hsp0 hxw hsle
      have hwg:=ct ((a:Int)+g) yA yA
      have hne2:¬ (a:Int)+g=a:=by omega
      simp only[dG] at hcg
      refine T.le (Le.trim [8,7,6,5,0] [0,1] 2 yAw yA) ?_
      simp
      apply au
      simp[hC]
      refine cH yAd (hcg) ?_
      simp[hC,hwg]
      apply au
      simp[hC]
      apply au
      simp[hC]
      refine T.bg rfl (fun h=>?_) (fun h=>?_)
      ·simp at h;omega
      apply T.skip
      simp
      refine aa.trim [8,7,6,5,0] [0,1] 2 yAw yA ⟨4,0,a+g,hxw,by omega,hsle,?_⟩
      simp[dG]
   ·rintro s ⟨kind,num,e,hxe,hae,hel,rfl⟩
    have k1:a≤e:=by omega
    have k3:e-a≤l.length-a:=by omega
    have hk4:¬ (k:Int)=4000:=by omega
    apply aJ
    simp[hC]
    refine T.bg rfl (fun h=>?_) (fun h=>?_)
    ·simp at h;omega
    apply T.skip
    simp
    have hsub:List.take (e-a) (List.drop a (l.map fun x=>CV.int .u8 (x.toNat:Int)))=((l.drop a).take (e-a)).map fun x=>CV.int .u8 (x.toNat:Int):=by
     rw[← List.map_drop,← List.map_take]
    have hmin:min (e-a) (l.length-a)=e-a:=by omega
    have hbW:=n9 ((l.drop a).take (e-a))
    have hWl:((l.drop a).take (e-a)).length=e-a:=by simp;omega
    generalize (l.drop a).take (e-a)=W at hsub hbW hWl
    have hsk:=CD l e hel yA (fun r hr=>by
     have:=hxe.skip
     rw[List.drop_drop] at this
     exact Lx.ncm this r hr)
    refine T.seq (T.Bl ag ?_)
    simp[hC,dG,k1,hel,hsub,hbW,hWl]
    have hb:(k+1)*40≤140737488355328:=by omega
    have hsz:(lJ cs).sz=4:=rfl
    have hel2:(lJ cs).elem=172:=rfl
    have hcl':(lJ cs).cells.length=k*4:=hcl
    apply aO
    simp[hC,hb,hsz,hel2,hcl',aI]
    simp only[dG] at hsk
    have hx2:=hxe.skip
    rw[List.drop_drop] at hx2
    have hsp2:∀ c,(l.drop (e+qL (l.drop e))).head? = some c→iM c=false:=fun c hc=>by
     rw[← List.drop_drop] at hc
     exact zB hc
    have hle2:e+qL (l.drop e)≤l.length:=by
     have:=(zk (p:=iM) (l.drop e)).1
     rw[List.length_drop] at this
     unfold qL
     omega
    obtain⟨a2,ha2⟩:∃ a2,e+qL (l.drop e)=a2:=⟨_,rfl⟩
    rw[ha2] at hsk hx2 hsp2 hle2
    have hea:e≤a2:=by omega
    apply aO
    simp[hC]
    refine cH yAd (hsk) ?_
    simp[hC]
    refine⟨l.length-a2,by omega,?_⟩
    have htrs:trees ((lJ cs).cells++[CV.int .i64 kind,.str ⟨W.toArray⟩,.int .i64 num,I a])=true:=by rw[aC];simp only[lJ,htr];rfl
    refine aa.le (Le.trim [6,5,0] [3] 4 (by simp[-List.all_append,aj htrs]) yA) ?_
    simp
    refine aa.le (Le.oP 3 0 rfl rfl yA yAa yAa (by simp[-List.all_append,bh htrs])) ?_
    simp[-List.map_append,aY htrs]
    refine aa.trim [6,5,0] [0] 1 (by simp[-List.all_append,aj htrs]) yA ⟨a2,(lJ cs).cells++[CV.int .i64 kind,.str ⟨W.toArray⟩,.int .i64 num,I a],k+1,m',rfl,hle2,by omega,hx2,hsp2,?_,htrs,?_⟩
    ·simp[hcl'];omega
    ·simp[dG,lJ]
end Go.Proofs.YtmnglemlimfpbaaGreat
namespace Go.Can
open Go.RowKit
def FU (aq:List (Nat×TI))(nt:Nat)(ops:Array Oper):List Nat→St→Option St
 | [],s=>some s
 | i::r,s=>match ops[i]? with
  | none=>none
  | some o=>match gq aq nt ops s o with
   | some s'=>FU aq nt ops r s'
   | none=>none
section
variable {P:Program}{C:Cx}{s:St}{aq:List (Nat×TI)}{ops:Array Oper}{call:gf}
theorem CG {nt:Nat}{K:St→Prop}:∀ (l:List Nat) (s s':St),FU aq nt ops l s=some s'→K s'→TH P aq nt ops l s K
 | [],s,s',h,hk=>by
  simp only[FU] at h
  cases h
  exact hk
 | i::r,s,s',h,hk=>by
  simp only[FU] at h
  split at h
  ·cases h
  ·rename_i o ho
   split at h
   ·rename_i s1 h1
    obtain⟨x,k1,k2⟩:=Al (P:=P) h1
    exact⟨o,x,ho,k1,by rw[k2];exact CG r s1 s' h hk⟩
   ·cases h
end
end Go.Can
