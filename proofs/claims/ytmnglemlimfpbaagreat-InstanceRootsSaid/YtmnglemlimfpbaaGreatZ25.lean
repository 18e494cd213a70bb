/- Name; Lex accepts what is right for it. | The interpreter's draws, by an oracle (pre, ord, tail) whose orders are checked once for each function. No function of the program is mentioned here. -/
import Derived.Test.YtmnglemlimfpbaaGreatZ24
import Derived.Test.YtmnglemlimfpbaaGreatZ10
namespace Go.Proofs.YtmnglemlimfpbaaGreat
open Go.Can Go.bg
theorem I2 (s:ByteArray)(i:Nat):s[i]? = (bs s)[i]?:=by
 by_cases h:i<s.size
 ·rw[getElem?_pos s i h,List.getElem?_eq_getElem (by simpa [bs] using h)]
  simp[bs]
  rfl
 ·rw[getElem?_neg s i h,List.getElem?_eq_none (by simpa [bs] using h)]
theorem kq (s:ByteArray):(bs s).length=s.size:=by simp[bs]
theorem iZ (s:ByteArray)(h:cY s)(hr:bs s∉pP):ah Tryz.prog 89 [.str s] (.bool true):=by
 obtain⟨⟨c0,t0,hc0,hl0⟩,h1,h2⟩:=h
 have hsz:=kq s
 have hpos:1≤s.size:=by rw[← hsz,hc0];simp
 refine ah.bl aa Tryz.func89 rfl (by kernel_rfl) (by simp[Tryz.ntmps89]) rfl fun C hC hC0=>?_
 rw[Tryz.ntmps89] at hC
 refine T.seq (T.go' aa ?_)
 simp[hC]
 refine T.seq (T.seq (T.go' aa ?_))
 simp[hC]
 refine T.block ?_
 refine T.aS (fun m st=>∃ i:Nat,m=s.size-i∧i≤s.size∧st=⟨[(3,I i),(0,.str s)],[],0⟩) (n:=s.size) ?_ ?_
 ·refine ae.le (Le.env [3,0]) (ae.here ⟨0,by omega,by omega,?_⟩)
  simp
 ·rintro n st ⟨i,rfl,hi,rfl⟩
  by_cases hil:i<s.size
  ·obtain⟨c,hc⟩:∃ c,(bs s)[i]? = some c:=⟨(bs s)[i],List.getElem?_eq_getElem (by omega)⟩
   have hg:s[i]? = some c:=by rw[I2];exact hc
   have hid:fc c=true:=List.all_eq_true.1 h1 c (List.mem_of_getElem? hc)
   have hw:=db ((i:Int)+1) (by omega) (by omega)
   refine T.seq (T.seq (T.go' aa ?_))
   simp[hC,hil]
   refine T.cond (b:=true) rfl (T.skip ?_)
   simp
   refine T.seq (T.block ?_)
   refine T.cut (fun st=>st=⟨[(25,.bool false),(3,I i),(0,.str s)],[],0⟩) ?_ ?_
   ·have hgi:s[i]=c:=by
     have:=hg
     rw[getElem?_pos s i hil] at this
     simpa using this
    cases hlt:isLet c with
    | true=>
     have hcl:=kH c
     rw[hlt] at hcl
     refine T.go' aa ?_
     simp[hC,hil,hgi]
     refine TL.call (by simp[hC]) rfl rfl (aI.of rfl (by first | rfl | simp only[List.cons_append,List.nil_append,List.append_nil,trees,tree,ag,ak,Bool.and_self,Bool.and_true,Bool.true_and]) (hcl)) (TL.go' aa ?_)
     simp[hC]
     refine ae.le (Le.env [25,3,0]) (ae.here ?_)
     simp
    | false=>
     have hcl:=kH c
     rw[hlt] at hcl
     have hdg:cR c=true:=by simpa [fc,hlt] using hid
     have hcd:=kN c
     rw[hdg] at hcd
     have hi0:¬ i=0:=by
      intro h
      subst h
      rw[hc0] at hc
      simp only[List.getElem?_cons_zero,Option.some.injEq] at hc
      subst hc
      rw[hl0] at hlt
      cases hlt
     refine T.go' aa ?_
     simp[hC,hil,hgi]
     refine TL.call (by simp[hC]) rfl rfl (aI.of rfl (by first | rfl | simp only[List.cons_append,List.nil_append,List.append_nil,trees,tree,ag,ak,Bool.and_self,Bool.and_true,Bool.true_and]) (hcl)) (TL.go' aa ?_)
     simp[hC,hi0,hil,hgi]
     refine TL.bT (by simp[hC]) rfl rfl rfl rfl (aI.of rfl (by first | rfl | simp only[List.cons_append,List.nil_append,List.append_nil,trees,tree,ag,ak,Bool.and_self,Bool.and_true,Bool.true_and]) (hcd)) (TL.go' aa ?_)
     simp[hC]
     refine ae.le (Le.env [25,3,0]) (ae.here ?_)
     simp
   ·rintro st rfl
    refine T.cond (b:=false) rfl ?_
    simp
    refine T.skip ?_
    simp
    refine T.go' aa ?_
    simp[hC,hw]
    refine⟨s.size-(i+1),by omega,?_⟩
    refine ae.le (Le.env [3,0]) (ae.here ⟨i+1,rfl,by omega,?_⟩)
    simp
  ·refine T.seq (T.seq (T.go' aa ?_))
   simp[hC,hil]
   refine T.cond (b:=false) rfl ?_
   simp
   refine T.exit ?_
   simp
   have g1:(1:Int)≤s.size:=by omega
   have g2:(s.size:Int)≤16:=by omega
   have hcr:=ql s
   simp only[hr,decide_false] at hcr
   refine T.seq (T.go' aa ?_)
   simp[hC,g1,g2]
   refine TL.bT (by simp[hC]) rfl rfl rfl rfl (aI.of rfl (by first | rfl | simp only[List.cons_append,List.nil_append,List.append_nil,trees,tree,ag,ak,Bool.and_self,Bool.and_true,Bool.true_and]) (hcr)) (TL.go' aa ?_)
   simp[hC]
   refine T.ret ?_
   refine ae.here ?_
   simp[Tryz.results89]
theorem C4 {p:UInt8→Bool}:∀ {L:List UInt8} {j:Nat},j<(L.takeWhile p).length→∃ c,L[j]? = some c∧p c=true
 | [],j,h=>by simp at h
 | a::r,j,h=>by
  cases ha:p a with
  | false=>rw[List.takeWhile_cons,ha] at h;simp at h
  | true=>
   cases j with
   | zero=>exact⟨a,rfl,ha⟩
   | succ j=>
    rw[List.takeWhile_cons,ha] at h
    simp only[if_true,List.length_cons] at h
    obtain⟨c,h1,h2⟩:=C4 (p:=p) (L:=r) (j:=j) (by omega)
    exact⟨c,by simpa using h1,h2⟩
theorem zb {p:UInt8→Bool}:∀ {L:List UInt8} {c:UInt8},L[(L.takeWhile p).length]? = some c→p c=false
 | [],c,h=>by simp at h
 | a::r,c,h=>by
  cases ha:p a with
  | false=>
   rw[List.takeWhile_cons,ha] at h
   simp at h
   subst h;exact ha
  | true=>
   rw[List.takeWhile_cons,ha] at h
   simp only[if_true,List.length_cons,List.getElem?_cons_succ] at h
   exact zb (L:=r) h
theorem xi {p:UInt8→Bool}:∀ L:List UInt8,(L.takeWhile p).length≤L.length∧L.dropWhile p=L.drop (L.takeWhile p).length∧L.take (L.takeWhile p).length=L.takeWhile p
 | []=>⟨Nat.le_refl _,rfl,rfl⟩
 | a::r=>by
  cases ha:p a with
  | false=>simp[ha]
  | true=>
   obtain⟨h1,h2,h3⟩:=xi (p:=p) r
   simp[ha,h2,h3]
   exact h1
theorem Lx.ncm {l:List UInt8}{n:Nat}(h:Lx l n):∀ r,l=47::r→r.head?≠some 47:=by
 rintro r rfl
 obtain⟨m,_,h1 | h1 | h1⟩:=Lx.inv h (by decide)
 ·exact absurd h1.1 (by decide)
 ·exact absurd h1.2.1 (by decide)
 ·exact h1.2.2.1 rfl
theorem HP:∀ L:List UInt8,qV L≤L.length
 | []=>Nat.le_refl _
 | [a]=>by
  simp only[qV]
  split<;>simp
 | a::b::r=>by
  simp only[qV,List.length_cons]
  split
  ·omega
  ·split<;>omega
def LexG (r:CV):Prop:=∃ (cs:List CV) (n:Nat) (e:Nat),r=.df [.ax cs n,I e,.int .i64 0]
def eZ (cs:List CV):Ob:=⟨172,4,cs⟩
def J66 (l:List UInt8)(n:Nat)(s:St):Prop:=∃ (a:Nat) (cs:List CV) (k m:Nat),n=l.length-a∧a≤l.length∧k+m≤4000∧Lx (l.drop a) m∧(∀ c,(l.drop a).head? = some c→gY c=false)∧cs.length=k*4∧trees cs=true∧
 s=⟨[(6,I a),(5,.bw 0 0 k),(0,dn l)],[(0,eZ cs)],1⟩
set_option maxHeartbeats 4000000 in
theorem Ir (l:List UInt8)(hl:l.length≤262144)(hx:Lx l 4000):kT Tryz.prog 66 [dn l] LexG:=by
 refine kT.iN aa Tryz.func66 rfl (by kernel_rfl) (by simp[Tryz.ntmps66]) fun C hC hC0=>?_
 rw[Tryz.ntmps66] at hC
 refine T.seq (T.go' aa ?_)
 simp[hC]
 have hl2:¬ (262144:Int)<l.length:=by omega
 refine T.seq (T.seq (T.go' aa ?_))
 simp[hC,dn,hl2]
 refine T.cond (b:=false) rfl ?_
 simp
 refine T.skip ?_
 simp
 refine T.seq (T.go' aa ?_)
 simp[hC]
 have hs0:=Am l 0 (Nat.zero_le _) (by omega) (fun r hr=>by
  have:=hx.skip
  simp only[List.drop_zero,Nat.zero_add] at hr this
  exact Lx.ncm this r hr)
 simp only[List.drop_zero,Nat.zero_add] at hs0
 have hx0:=hx.skip
 have hsp0:∀ c,(l.drop (pC l)).head? = some c→gY c=false:=fun c hc=>xy hc
 have hle0:pC l≤l.length:=by
  unfold pC
  exact (xi (p:=gY) l).1
 generalize pC l=a0 at hs0 hx0 hsp0 hle0
 refine T.seq (T.go' aa ?_)
 simp[hC]
 refine TL.call (by simp[hC]) rfl rfl (aI.of rfl (by first | rfl | simp only[List.cons_append,List.nil_append,List.append_nil,trees,tree,ag,ak,Bool.and_self,Bool.and_true,Bool.true_and]) (hs0)) (TL.go' aa ?_)
 simp[hC]
 refine T.block ?_
 refine T.aS (J66 l) (n:=l.length-a0) ?_ ?_
 ·refine ae.le (Le.own 5 172 4 rfl) ?_
  simp
  refine ae.trim [6,5,0] [0] 1 (by simp) (by omega) ⟨a0,[],0,4000,rfl,hle0,by omega,hx0,hsp0,rfl,rfl,?_⟩
  simp[dn,eZ]
 ·rintro n st ⟨a,cs,k,m,rfl,hal,hkm,hxa,hsp,hcl,htr,rfl⟩
  refine T.seq (T.block ?_)
  by_cases hend:a=l.length
  ·refine T.seq (T.seq (T.go' aa ?_))
   simp[hC,dn,hend]
   refine T.cond (b:=true) rfl ?_
   simp
   have hb:(k+1)*40≤140737488355328:=by omega
   have hsz:(eZ cs).sz=4:=rfl
   have hel:(eZ cs).elem=172:=rfl
   have hcl':(eZ cs).cells.length=k*4:=hcl
   refine T.seq (T.go' aa ?_)
   simp[hC,hb,hsz,hel,hcl',aX]
   refine T.ret ?_
   have htr2:trees ((eZ cs).cells++[CV.int .i64 5,.str ⟨#[]⟩,.int .i64 0,.int .i64 l.length])=true:=by rw[bh];simp only[eZ,htr];rfl
   refine ae.le (Le.eM (o:=2) rfl htr2) ?_
   simp[cm]
   refine ae.here ⟨_,rfl,rfl,_,_,_,rfl⟩
  ·have hlt:a<l.length:=by omega
   have hne:¬ (a:Int)=l.length:=by omega
   obtain⟨c,hc⟩:∃ c,l[a]? = some c:=⟨l[a],List.getElem?_eq_getElem hlt⟩
   have hdr:=kp hc
   have hd:=gC hc
   rw[hd] at hxa hsp
   have hcs:=hsp c rfl
   obtain⟨m',rfl,hcases⟩:=Lx.inv hxa hcs
   rw[← hd] at hcases
   refine T.seq (T.seq (T.go' aa ?_))
   simp[hC,dn,hend]
   refine T.cond (b:=false) rfl ?_
   simp
   refine T.skip ?_
   simp
   refine T.seq (T.go' aa ?_)
   simp[hC]
   refine T.seq (T.go' aa ?_)
   simp[hC]
   refine T.le (Le.trim [8,7,6,5,0] [0,1] 2 (by simp[eZ,af htr]) (by omega)) ?_
   simp
   refine T.cut (fun s=>∃ (kind num:Int) (e:Nat),Lx (l.drop e) m'∧a<e∧e≤l.length∧s=⟨[(8,I e),(7,.aq 1 0),(6,I a),(5,.bw 0 0 k),(0,dn l)],[(0,eZ cs),(1,⟨172,0,[.int .i64 kind,.str ⟨#[]⟩,.int .i64 num,I a]⟩)],2⟩) ?_ ?_
   ·refine T.block ?_
    refine T.seq (T.go' aa ?_)
    simp[hC,hlt,hdr]
    refine TL.call (by simp[hC]) rfl rfl (aI.of rfl (by first | rfl | simp only[List.cons_append,List.nil_append,List.append_nil,trees,tree,ag,ak,Bool.and_self,Bool.and_true,Bool.true_and]) (kH c)) (TL.go' aa ?_)
    simp[hC]
    refine T.bf rfl (fun h=>?_) (fun h=>?_)
    ·have h1:isLet c=true:=by simpa using h
     obtain⟨_,hw16,hxw⟩:isLet c=true∧(((l.drop a).takeWhile fc).length≤16∨(l.drop a).takeWhile fc∈pP)∧Lx ((l.drop a).dropWhile fc) m':=by
      rcases hcases with h | h | h
      ·exact h
      ·rw[h1] at h;simp at h
      ·rw[h1] at h;simp at h
     obtain⟨t1,t2,t3⟩:=xi (p:=fc) (l.drop a)
     rw[t2,List.drop_drop] at hxw
     have hwpos:0<((l.drop a).takeWhile fc).length:=by
      rw[hd,List.takeWhile_cons]
      simp[fc,h1]
     have htin:=@C4 fc (l.drop a)
     have htout:=@zb fc (l.drop a)
     generalize hW:(l.drop a).takeWhile fc=W at *
     have hWl:a+W.length≤l.length:=by simp at t1;omega
     refine T.cut (fun s=>s=⟨[(8,I ((a+W.length:Nat))),(7,.aq 1 0),(6,I a),(5,.bw 0 0 k),(0,dn l)],[(0,eZ cs),(1,⟨172,0,[.int .i64 0,.str ⟨#[]⟩,.int .i64 0,I a]⟩)],2⟩) ?_ ?_
     ·refine T.block ?_
      refine T.aS (fun n s=>∃ j:Nat,n=W.length-j∧j≤W.length∧s=⟨[(8,I ((a+j:Nat))),(7,.aq 1 0),(6,I a),(5,.bw 0 0 k),(0,dn l)],[(0,eZ cs),(1,⟨172,0,[.int .i64 0,.str ⟨#[]⟩,.int .i64 0,I a]⟩)],2⟩) (n:=W.length) ?_ ?_
      ·refine ae.trim [8,7,6,5,0] [0,1] 2 (by simp[eZ,af htr]) (by omega) ⟨0,by omega,by omega,?_⟩
       simp[dn]
      ·rintro n s ⟨j,rfl,hjl,rfl⟩
       obtain⟨e,he⟩:∃ e,a+j=e:=⟨_,rfl⟩
       rw[he]
       by_cases hj:j<W.length
       ·obtain⟨c2,hc2,hp2⟩:=htin hj
        rw[List.getElem?_drop,he] at hc2
        have hdr2:=kp hc2
        have hel:e<l.length:=(List.getElem?_eq_some_iff.1 hc2).1
        have hw:=db ((e:Int)+1) (by omega) (by omega)
        have hcl2:=kH c2
        have hcd2:=kN c2
        cases hlt2:isLet c2 with
        | true=>
         rw[hlt2] at hcl2
         refine T.seq (T.seq (T.go' aa ?_))
         simp[hC,dn,hel,hdr2]
         refine TL.bT (by simp[hC]) rfl rfl rfl rfl (aI.of rfl (by first | rfl | simp only[List.cons_append,List.nil_append,List.append_nil,trees,tree,ag,ak,Bool.and_self,Bool.and_true,Bool.true_and]) (hcl2)) (TL.go' aa ?_)
         simp[hC]
         refine T.cond (b:=true) rfl (T.skip ?_)
         simp
         refine T.block ?_
         refine T.go' aa ?_
         simp[hC,hw]
         refine⟨W.length-(j+1),by omega,?_⟩
         refine ae.trim [8,7,6,5,0] [0,1] 2 (by simp[eZ,af htr]) (by omega) ⟨j+1,rfl,by omega,?_⟩
         simp
         omega
        | false=>
         rw[hlt2] at hcl2
         have hdg2:cR c2=true:=by simpa [fc,hlt2] using hp2
         rw[hdg2] at hcd2
         refine T.seq (T.seq (T.go' aa ?_))
         simp[hC,dn,hel,hdr2]
         refine TL.bT (by simp[hC]) rfl rfl rfl rfl (aI.of rfl (by first | rfl | simp only[List.cons_append,List.nil_append,List.append_nil,trees,tree,ag,ak,Bool.and_self,Bool.and_true,Bool.true_and]) (hcl2)) (TL.go' aa ?_)
         simp[hC,hel,hdr2]
         refine TL.bT (by simp[hC]) rfl rfl rfl rfl (aI.of rfl (by first | rfl | simp only[List.cons_append,List.nil_append,List.append_nil,trees,tree,ag,ak,Bool.and_self,Bool.and_true,Bool.true_and]) (hcd2)) (TL.go' aa ?_)
         simp[hC]
         refine T.cond (b:=true) rfl (T.skip ?_)
         simp
         refine T.block ?_
         refine T.go' aa ?_
         simp[hC,hw]
         refine⟨W.length-(j+1),by omega,?_⟩
         refine ae.trim [8,7,6,5,0] [0,1] 2 (by simp[eZ,af htr]) (by omega) ⟨j+1,rfl,by omega,?_⟩
         simp
         omega
       ·have hje:j=W.length:=by omega
        by_cases hel:e<l.length
        ·obtain⟨c2,hc2⟩:∃ c,l[e]? = some c:=⟨l[e],List.getElem?_eq_getElem hel⟩
         have hp2:fc c2=false:=htout (by rw[List.getElem?_drop,← hje,he];exact hc2)
         have hdr2:=kp hc2
         have hcl2:=kH c2
         have hcd2:=kN c2
         have hp3:isLet c2=false∧cR c2=false:=by simpa [fc] using hp2
         rw[hp3.1] at hcl2
         rw[hp3.2] at hcd2
         refine T.seq (T.seq (T.go' aa ?_))
         simp[hC,dn,hel,hdr2]
         refine TL.bT (by simp[hC]) rfl rfl rfl rfl (aI.of rfl (by first | rfl | simp only[List.cons_append,List.nil_append,List.append_nil,trees,tree,ag,ak,Bool.and_self,Bool.and_true,Bool.true_and]) (hcl2)) (TL.go' aa ?_)
         simp[hC,hel,hdr2]
         refine TL.bT (by simp[hC]) rfl rfl rfl rfl (aI.of rfl (by first | rfl | simp only[List.cons_append,List.nil_append,List.append_nil,trees,tree,ag,ak,Bool.and_self,Bool.and_true,Bool.true_and]) (hcd2)) (TL.go' aa ?_)
         simp[hC]
         refine T.cond (b:=false) rfl ?_
         simp
         refine T.exit ?_
         simp
         refine ae.trim [8,7,6,5,0] [0,1] 2 (by simp[eZ,af htr]) (by omega) ?_
         simp
         omega
        ·refine T.seq (T.seq (T.go' aa ?_))
         simp[hC,dn,hel]
         refine T.cond (b:=false) rfl ?_
         simp
         refine T.exit ?_
         simp
         refine ae.trim [8,7,6,5,0] [0,1] 2 (by simp[eZ,af htr]) (by omega) ?_
         simp
         omega
     ·rintro s rfl
      obtain⟨e,he⟩:∃ e,a+W.length=e:=⟨_,rfl⟩
      rw[he] at hxw ⊢
      have k1:a≤e:=by omega
      have k2:e≤l.length:=by omega
      have k3:e-a=W.length:=by omega
      have hsub:List.take W.length (List.drop a (l.map fun x=>CV.int .u8 (x.toNat:Int)))=W.map fun x=>CV.int .u8 (x.toNat:Int):=by
       rw[← List.map_drop,← List.map_take,t3]
      have hmin:min W.length (l.length-a)=W.length:=by omega
      have hbW:=mB W
      have hWe:bs ⟨W.toArray⟩=W:=bs_mk W
      refine T.seq (T.go' aa ?_)
      simp[hC]
      have hcr:=ql ⟨W.toArray⟩
      rw[hWe] at hcr
      have wk:IntKind.i64.wrap ((e:Int)-a)=(W.length:Int):=by rw[db _ (by omega) (by omega)];omega
      refine T.seq (T.yX aa ?_)
      simp[hC,dn,k1,k2,hsub,hbW,k3]
      refine TL.call (by simp[hC]) rfl rfl (aI.of rfl (by first | rfl | simp only[List.cons_append,List.nil_append,List.append_nil,trees,tree,ag,ak,Bool.and_self,Bool.and_true,Bool.true_and]) (hcr)) (TL.go' aa ?_)
      simp
      refine T.bf rfl (fun h=>?_) (fun h=>?_)
      ·refine T.go' aa ?_
       simp[hC]
       refine ae.trim [8,7,6,5,0] [0,1] 2 (by simp[eZ,af htr]) (by omega) ⟨3,0,e,hxw,by omega,k2,?_⟩
       simp
      ·have hnr:W∉pP:=by simpa using h
       have h16:W.length≤16:=hw16.resolve_right hnr
       have h16':¬ (16:Int)<W.length:=by omega
       refine T.seq (T.go' aa ?_)
       simp[hC,wk,h16']
       refine T.cond (b:=false) rfl ?_
       simp
       refine T.skip ?_
       simp
       refine ae.trim [8,7,6,5,0] [0,1] 2 (by simp[eZ,af htr]) (by omega) ⟨1,0,e,hxw,by omega,k2,?_⟩
       simp
    ·have h1:isLet c=false:=by simpa using h
     refine T.le (Le.trim [8,7,6,5,0] [0,1] 2 (by simp[eZ,af htr]) (by omega)) ?_
     simp
     refine T.seq (T.go' aa ?_)
     simp[hC,hlt,hdr]
     refine TL.call (by simp[hC]) rfl rfl (aI.of rfl (by first | rfl | simp only[List.cons_append,List.nil_append,List.append_nil,trees,tree,ag,ak,Bool.and_self,Bool.and_true,Bool.true_and]) (kN c)) (TL.go' aa ?_)
     simp[hC]
     refine T.bf rfl (fun h=>?_) (fun h=>?_)
     ·have h2:cR c=true:=by simpa using h
      obtain⟨_,_,hv63,hxw⟩:isLet c=false∧cR c=true∧kj ((l.drop a).takeWhile cR)<9223372036854775808∧Lx ((l.drop a).dropWhile cR) m':=by
       rcases hcases with h | h | h
       ·rw[h1] at h;simp at h
       ·exact h
       ·rw[h2] at h;simp at h
      obtain⟨t1,t2,t3⟩:=xi (p:=cR) (l.drop a)
      rw[t2,List.drop_drop] at hxw
      have hwpos:0<((l.drop a).takeWhile cR).length:=by
       rw[hd,List.takeWhile_cons]
       simp[h2]
      have hall:((l.drop a).takeWhile cR).all cR=true:=List.all_takeWhile
      have htin:=@C4 cR (l.drop a)
      have htout:=@zb cR (l.drop a)
      generalize hW:(l.drop a).takeWhile cR=W at *
      have hWl:a+W.length≤l.length:=by simp at t1;omega
      refine T.cut (fun s=>s=⟨[(8,I ((a+W.length:Nat))),(7,.aq 1 0),(6,I a),(5,.bw 0 0 k),(0,dn l)],[(0,eZ cs),(1,⟨172,0,[.int .i64 0,.str ⟨#[]⟩,.int .i64 0,I a]⟩)],2⟩) ?_ ?_
      ·refine T.block ?_
       refine T.aS (fun n s=>∃ j:Nat,n=W.length-j∧j≤W.length∧s=⟨[(8,I ((a+j:Nat))),(7,.aq 1 0),(6,I a),(5,.bw 0 0 k),(0,dn l)],[(0,eZ cs),(1,⟨172,0,[.int .i64 0,.str ⟨#[]⟩,.int .i64 0,I a]⟩)],2⟩) (n:=W.length) ?_ ?_
       ·refine ae.trim [8,7,6,5,0] [0,1] 2 (by simp[eZ,af htr]) (by omega) ⟨0,by omega,by omega,?_⟩
        simp[dn]
       ·rintro n s ⟨j,rfl,hjl,rfl⟩
        obtain⟨e,he⟩:∃ e,a+j=e:=⟨_,rfl⟩
        rw[he]
        by_cases hj:j<W.length
        ·obtain⟨c2,hc2,hp2⟩:=htin hj
         rw[List.getElem?_drop,he] at hc2
         have hdr2:=kp hc2
         have hel:e<l.length:=(List.getElem?_eq_some_iff.1 hc2).1
         have hw:=db ((e:Int)+1) (by omega) (by omega)
         have hcd2:=kN c2
         rw[hp2] at hcd2
         refine T.seq (T.seq (T.go' aa ?_))
         simp[hC,dn,hel,hdr2]
         refine TL.bT (by simp[hC]) rfl rfl rfl rfl (aI.of rfl (by first | rfl | simp only[List.cons_append,List.nil_append,List.append_nil,trees,tree,ag,ak,Bool.and_self,Bool.and_true,Bool.true_and]) (hcd2)) (TL.go' aa ?_)
         simp[hC]
         refine T.cond (b:=true) rfl (T.skip ?_)
         simp
         refine T.block ?_
         refine T.go' aa ?_
         simp[hC,hw]
         refine⟨W.length-(j+1),by omega,?_⟩
         refine ae.trim [8,7,6,5,0] [0,1] 2 (by simp[eZ,af htr]) (by omega) ⟨j+1,rfl,by omega,?_⟩
         simp
         omega
        ·have hje:j=W.length:=by omega
         by_cases hel:e<l.length
         ·obtain⟨c2,hc2⟩:∃ c,l[e]? = some c:=⟨l[e],List.getElem?_eq_getElem hel⟩
          have hp2:cR c2=false:=htout (by rw[List.getElem?_drop,← hje,he];exact hc2)
          have hdr2:=kp hc2
          have hcd2:=kN c2
          rw[hp2] at hcd2
          refine T.seq (T.seq (T.go' aa ?_))
          simp[hC,dn,hel,hdr2]
          refine TL.bT (by simp[hC]) rfl rfl rfl rfl (aI.of rfl (by first | rfl | simp only[List.cons_append,List.nil_append,List.append_nil,trees,tree,ag,ak,Bool.and_self,Bool.and_true,Bool.true_and]) (hcd2)) (TL.go' aa ?_)
          simp[hC]
          refine T.cond (b:=false) rfl ?_
          simp
          refine T.exit ?_
          simp
          refine ae.trim [8,7,6,5,0] [0,1] 2 (by simp[eZ,af htr]) (by omega) ?_
          simp
          omega
         ·refine T.seq (T.seq (T.go' aa ?_))
          simp[hC,dn,hel]
          refine T.cond (b:=false) rfl ?_
          simp
          refine T.exit ?_
          simp
          refine ae.trim [8,7,6,5,0] [0,1] 2 (by simp[eZ,af htr]) (by omega) ?_
          simp
          omega
      ·rintro s rfl
       obtain⟨e,he⟩:∃ e,a+W.length=e:=⟨_,rfl⟩
       rw[he] at hxw ⊢
       have k1:a≤e:=by omega
       have k2:e≤l.length:=by omega
       have k3:e-a=W.length:=by omega
       have hsub:List.take W.length (List.drop a (l.map fun x=>CV.int .u8 (x.toNat:Int)))=W.map fun x=>CV.int .u8 (x.toNat:Int):=by
        rw[← List.map_drop,← List.map_take,t3]
       have hcn:=uf W (by omega) hall hv63
       have hnn:¬ ((kj W:Int)<0):=by omega
       refine T.seq (T.go' aa ?_)
       simp[hC,dn,k1,k2,hsub,k3]
       simp only[dn] at hcn
       refine TL.call (by simp[hC]) rfl rfl (aI.of rfl (by first | rfl | simp only[List.cons_append,List.nil_append,List.append_nil,trees,tree,ag,ak,Bool.and_self,Bool.and_true,Bool.true_and]) (hcn)) (TL.go' aa ?_)
       simp[hC]
       refine T.seq (T.go' aa ?_)
       simp[hC,hnn]
       refine T.cond (b:=false) rfl ?_
       simp
       refine T.skip ?_
       simp
       refine ae.trim [8,7,6,5,0] [0,1] 2 (by simp[eZ,af htr]) (by omega) ⟨2,kj W,e,hxw,by omega,k2,?_⟩
       simp
     ·have h2:cR c=false:=by simpa using h
      obtain⟨hsp0,hxw⟩:0<qV (l.drop a)∧Lx ((l.drop a).drop (qV (l.drop a))) m':=by
       rcases hcases with h | h | h
       ·rw[h1] at h;simp at h
       ·rw[h2] at h;simp at h
       ·exact⟨h.2.2.2.1,h.2.2.2.2⟩
      have hcg:=FT l a hlt (by omega)
      have hsle:a+qV (l.drop a)≤l.length:=by
       have h2:=HP (l.drop a)
       rw[List.length_drop] at h2
       omega
      rw[List.drop_drop] at hxw
      generalize qV (l.drop a)=g at hcg hsp0 hxw hsle
      have hwg:=db ((a:Int)+g) (by omega) (by omega)
      have hne2:¬ (a:Int)+g=a:=by omega
      simp only[dn] at hcg
      refine T.le (Le.trim [8,7,6,5,0] [0,1] 2 (by simp[eZ,af htr]) (by omega)) ?_
      simp
      refine T.seq (T.go' aa ?_)
      simp[hC]
      refine TL.call (by simp[hC]) rfl rfl (aI.of rfl (by first | rfl | simp only[List.cons_append,List.nil_append,List.append_nil,trees,tree,ag,ak,Bool.and_self,Bool.and_true,Bool.true_and]) (hcg)) (TL.go' aa ?_)
      simp[hC,hwg]
      refine T.seq (T.go' aa ?_)
      simp[hC]
      refine T.seq (T.go' aa ?_)
      simp[hC]
      refine T.bf rfl (fun h=>?_) (fun h=>?_)
      ·simp at h;omega
      refine T.skip ?_
      simp
      refine ae.trim [8,7,6,5,0] [0,1] 2 (by simp[eZ,af htr]) (by omega) ⟨4,0,a+g,hxw,by omega,hsle,?_⟩
      simp[dn]
   ·rintro s ⟨kind,num,e,hxe,hae,hel,rfl⟩
    have k1:a≤e:=by omega
    have k3:e-a≤l.length-a:=by omega
    have hk4:¬ (k:Int)=4000:=by omega
    refine T.seq (T.seq (T.go' aa ?_))
    simp[hC]
    refine T.bf rfl (fun h=>?_) (fun h=>?_)
    ·simp at h;omega
    refine T.skip ?_
    simp
    have hsub:List.take (e-a) (List.drop a (l.map fun x=>CV.int .u8 (x.toNat:Int)))=((l.drop a).take (e-a)).map fun x=>CV.int .u8 (x.toNat:Int):=by
     rw[← List.map_drop,← List.map_take]
    have hmin:min (e-a) (l.length-a)=e-a:=by omega
    have hbW:=mB ((l.drop a).take (e-a))
    have hWl:((l.drop a).take (e-a)).length=e-a:=by simp;omega
    generalize (l.drop a).take (e-a)=W at hsub hbW hWl
    have hsk:=Am l e hel (by omega) (fun r hr=>by
     have:=hxe.skip
     rw[List.drop_drop] at this
     exact Lx.ncm this r hr)
    refine T.seq (T.yX aa ?_)
    simp[hC,dn,k1,hel,hsub,hbW,hWl]
    have hb:(k+1)*40≤140737488355328:=by omega
    have hsz:(eZ cs).sz=4:=rfl
    have hel2:(eZ cs).elem=172:=rfl
    have hcl':(eZ cs).cells.length=k*4:=hcl
    refine T.go' aa ?_
    simp[hC,hb,hsz,hel2,hcl',aX]
    simp only[dn] at hsk
    have hx2:=hxe.skip
    rw[List.drop_drop] at hx2
    have hsp2:∀ c,(l.drop (e+pC (l.drop e))).head? = some c→gY c=false:=fun c hc=>by
     rw[← List.drop_drop] at hc
     exact xy hc
    have hle2:e+pC (l.drop e)≤l.length:=by
     have:=(xi (p:=gY) (l.drop e)).1
     rw[List.length_drop] at this
     unfold pC
     omega
    obtain⟨a2,ha2⟩:∃ a2,e+pC (l.drop e)=a2:=⟨_,rfl⟩
    rw[ha2] at hsk hx2 hsp2 hle2
    have hea:e≤a2:=by omega
    refine T.go' aa ?_
    simp[hC]
    refine TL.call (by simp[hC]) rfl rfl (aI.of rfl (by first | rfl | simp only[List.cons_append,List.nil_append,List.append_nil,trees,tree,ag,ak,Bool.and_self,Bool.and_true,Bool.true_and]) (hsk)) (TL.go' aa ?_)
    simp[hC]
    refine⟨l.length-a2,by omega,?_⟩
    have htrs:trees ((eZ cs).cells++[CV.int .i64 kind,.str ⟨W.toArray⟩,.int .i64 num,I a])=true:=by rw[bh];simp only[eZ,htr];rfl
    refine ae.le (Le.trim [6,5,0] [3] 4 (by simp[-List.all_append,af htrs]) (by omega)) ?_
    simp
    refine ae.le (Le.na 3 0 rfl rfl (by omega) (by simp) (by simp) (by simp[-List.all_append,a6 htrs])) ?_
    simp[-List.map_append,aY htrs]
    refine ae.trim [6,5,0] [0] 1 (by simp[-List.all_append,af htrs]) (by omega) ⟨a2,(eZ cs).cells++[CV.int .i64 kind,.str ⟨W.toArray⟩,.int .i64 num,I a],k+1,m',rfl,hle2,by omega,hx2,hsp2,?_,htrs,?_⟩
    ·simp[hcl'];omega
    ·simp[dn,eZ]
end Go.Proofs.YtmnglemlimfpbaaGreat
namespace Go.Can
open Go.RowKit
def DD (aj:List (Nat×TI))(nt:Nat)(ops:Array Oper):List Nat→St→Option St
 | [],s=>some s
 | i::r,s=>match ops[i]? with
  | none=>none
  | some o=>match fz aj nt ops s o with
   | some s'=>DD aj nt ops r s'
   | none=>none
section
variable {P:Program}{C:Cx}{s:St}{aj:List (Nat×TI)}{ops:Array Oper}{call:fF}
theorem Ap {nt:Nat}{K:St→Prop}:∀ (l:List Nat) (s s':St),DD aj nt ops l s=some s'→K s'→TH P aj nt ops l s K
 | [],s,s',h,hk=>by
  simp only[DD] at h
  cases h
  exact hk
 | i::r,s,s',h,hk=>by
  simp only[DD] at h
  split at h
  ·cases h
  ·rename_i o ho
   split at h
   ·rename_i s1 h1
    obtain⟨x,k1,k2⟩:=yd (P:=P) h1
    exact⟨o,x,ho,k1,by rw[k2];exact Ap r s1 s' h hk⟩
   ·cases h
end
end Go.Can
