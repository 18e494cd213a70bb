/- digits, Number, text of expressions. -/
import Derived.Test.YtmnglemlimfpbaaGreatZ30
namespace Go.Proofs.YtmnglemlimfpbaaGreat
open Go.Can Go.bg
theorem nr (n:Int)(h:0≤n∧n<18446744073709551616):IntKind.u64.wrap n=n:=by
 exact IntWalk.u64_in n ⟨h.1,by omega⟩
def yr (m:Nat)(s:ByteArray):ByteArray:=if m=0 then s else jx m++s
theorem zP (n:Nat):jx n=yr (n / 10) (dK (48+n % 10)):=by
 unfold yr
 rw[jx]
 split
 ·rename_i h
  rw[if_pos (by omega),Nat.mod_eq_of_lt h]
 ·rw[if_neg (by omega)]
theorem Ci (m:Nat)(s:ByteArray)(h:0<m):yr m s=yr (m / 10) (dK (48+m % 10)++s):=by
 unfold yr
 rw[if_neg (by omega),jx]
 split
 ·rename_i h1
  rw[if_pos (by omega),Nat.mod_eq_of_lt h1]
 ·rw[if_neg (by omega),ByteArray.append_assoc]
def J153 (T:ByteArray)(m:Nat)(s:St):Prop:=∃ x:ByteArray,x.size+m≤9223372036854775807∧yr m x=T∧s=⟨[(3,.str x),(0,.int .u64 m)],[],0⟩
theorem vf (n:Nat)(hn:n<9223372036854775808):ah Tryz.prog 153 [.int .u64 n] (.str (jx n)):=by
 rw[zP]
 obtain⟨X,hT⟩:∃ X,yr (n / 10) (dK (48+n % 10))=X:=⟨_,rfl⟩
 rw[hT]
 have m1:(n:Int).tmod 10=((n % 10:Nat):Int):=by rw[Int.tmod_eq_emod_of_nonneg (by omega)];omega
 have d1:(n:Int).tdiv 10=((n / 10:Nat):Int):=by rw[Int.tdiv_eq_ediv_of_nonneg (by omega)];omega
 refine ah.bl aa Tryz.func153 rfl (by kernel_rfl) (by simp[Tryz.ntmps153]) rfl fun C hC hC0=>?_
 rw[Tryz.ntmps153] at hC
 refine T.seq (T.go' aa ?_)
 simp[hC]
 obtain⟨q,hq⟩:∃ q,n % 10=q:=⟨_,rfl⟩
 have hq9:q<10:=by omega
 have m2:(n:Int) % 10=(q:Int):=by omega
 have w1:=nr (48+(q:Int)) (by omega)
 have w1b:=nr (q:Int) (by omega)
 have w2:IntKind.u8.wrap (48+(q:Int))=48+(q:Int):=IntWalk.u8_in _ (by omega)
 have w3:(0:Int)≤48+(q:Int)∧48+(q:Int)<256:=by omega
 have w4:(48+(q:Int)).toNat=48+q:=by omega
 refine T.seq (T.yX aa ?_)
 simp[hC,m1,hq,w1,w2,w3,w4]
 refine T.le (Le.trim [3,0] [] 0 (by simp) (by omega)) ?_
 simp
 have hch:(⟨#[48+UInt8.ofNat q]⟩:ByteArray)=dK (48+q):=by simp[dK]
 rw[hch]
 have wd:=nr ((n / 10:Nat):Int) (by omega)
 have d2:(n:Int) / 10=((n / 10:Nat):Int):=by omega
 obtain⟨m0,hm0⟩:∃ m0,n / 10=m0:=⟨_,rfl⟩
 rw[hm0] at d1 d2 wd hT
 rw[hq] at hT
 refine T.seq (T.seq (T.go' aa ?_))
 simp[hC,d1,wd]
 refine T.block ?_
 refine T.aS (J153 X) (n:=m0) ?_ ?_
 ·refine ae.trim [3,0] [] 0 (by simp) (by omega) ⟨dK (48+q),?_,hT,?_⟩
  ·have:(dK (48+q)).size=1:=rfl
   omega
  ·simp
 ·rintro m s ⟨x,hx,hX,rfl⟩
  by_cases hm:0<m
  ·have hm':(0:Int)<m:=by omega
   rw[Ci m x hm] at hX
   obtain⟨r,hr⟩:∃ r,m % 10=r:=⟨_,rfl⟩
   have hr9:r<10:=by omega
   have m1:(m:Int).tmod 10=(r:Int):=by rw[Int.tmod_eq_emod_of_nonneg (by omega)];omega
   have m2:(m:Int) % 10=(r:Int):=by omega
   have v1:=nr (48+(r:Int)) (by omega)
   have v1b:=nr (r:Int) (by omega)
   have v2:IntKind.u8.wrap (48+(r:Int))=48+(r:Int):=IntWalk.u8_in _ (by omega)
   have v3:(0:Int)≤48+(r:Int)∧48+(r:Int)<256:=by omega
   have v4:(48+(r:Int)).toNat=48+r:=by omega
   have e1:(m:Int).tdiv 10=((m / 10:Nat):Int):=by rw[Int.tdiv_eq_ediv_of_nonneg (by omega)];omega
   have e2:(m:Int) / 10=((m / 10:Nat):Int):=by omega
   have ve:=nr ((m / 10:Nat):Int) (by omega)
   rw[hr] at hX
   have hch2:(⟨#[48+UInt8.ofNat r]⟩:ByteArray)=dK (48+r):=by simp[dK]
   have hsz:(dK (48+r)).size=1:=rfl
   have so:=av (dK (48+r)) x (by omega)
   obtain⟨m',hm'⟩:∃ m',m / 10=m':=⟨_,rfl⟩
   rw[hm'] at e1 e2 ve hX
   refine T.seq (T.seq (T.go' aa ?_))
   simp[hC,hm]
   refine T.cond (b:=true) rfl (T.skip ?_)
   simp
   refine T.seq (T.block ?_)
   refine T.yX aa ?_
   simp[hC,m1,v1,v2,v3,v4,hch2,so]
   refine T.go' aa ?_
   simp[hC,e1,ve]
   refine⟨m',by omega,?_⟩
   refine ae.trim [3,0] [] 0 (by simp) (by omega) ⟨dK (48+r)++x,?_,hX,?_⟩
   ·rw[ByteArray.size_append];omega
   ·simp
  ·have hm0:m=0:=by omega
   subst hm0
   have hxT:x=X:=by simpa [yr] using hX
   refine T.seq (T.seq (T.go' aa ?_))
   simp[hC]
   refine T.cond (b:=false) rfl ?_
   simp
   refine T.exit ?_
   simp
   refine T.seq (T.go' aa ?_)
   simp[hC]
   refine T.ret ?_
   refine ae.here ?_
   simp[Tryz.results153,hxT]
theorem nR (n:Int)(h1 : -1000≤n)(h2:n<9223372036854775808):ah Tryz.prog 128 [I n] (.str (j9 n)):=by
 refine ah.bl aa Tryz.func128 rfl (by kernel_rfl) (by simp[Tryz.ntmps128]) rfl fun C hC hC0=>?_
 rw[Tryz.ntmps128] at hC
 refine T.seq (T.go' aa ?_)
 simp[hC]
 refine T.seq (T.seq (T.go' aa ?_))
 simp[hC]
 refine T.bf rfl (fun h=>?_) (fun h=>?_)
 ·have hn:n<0:=by simpa using h
  obtain⟨m,hm⟩:∃ m:Nat,n=-(m:Int):=⟨(-n).toNat,by omega⟩
  subst hm
  have hcd:=vf m (by omega)
  have w1:=db (-(m:Int)+1) (by omega) (by omega)
  have w2:=db (-(-(m:Int)+1)) (by omega) (by omega)
  have w3:=nr (-(-(m:Int)+1)) (by omega)
  have w4:=nr (-(-(m:Int)+1)+1) (by omega)
  have e5 : -(-(m:Int)+1)+1=(m:Int):=by omega
  have w5:=nr (m:Int) (by omega)
  have hsz:(jx m).size≤19:=by
   have:=(wD m).2.2.2 18 (by omega)
   rw[kq] at this
   exact this
  have so:=av ⟨#[45]⟩ (jx m) (by have:(⟨#[45]⟩:ByteArray).size=1:=rfl;omega)
  refine T.seq (T.yX aa ?_)
  simp[hC,w1,w2,w3,e5,w5]
  refine TL.call (by simp[hC]) rfl rfl (aI.of rfl (by first | rfl | simp only[List.cons_append,List.nil_append,List.append_nil,trees,tree,ag,ak,Bool.and_self,Bool.and_true,Bool.true_and]) (hcd)) (TL.go' aa ?_)
  simp[hC,so]
  refine T.ret ?_
  refine ae.here ?_
  have hnT:j9 (-(m:Int))=⟨#[45]⟩++jx m:=by
   unfold j9
   rw[if_pos hn]
   simp
  rw[hnT]
  simp[Tryz.results128]
 ·have hn:¬ n<0:=by simpa using h
  obtain⟨m,hm⟩:∃ m:Nat,n=(m:Int):=⟨n.toNat,by omega⟩
  subst hm
  have hcd:=vf m (by omega)
  have w5:=nr (m:Int) (by omega)
  refine T.skip ?_
  simp
  refine T.seq (T.yX aa ?_)
  simp[hC,w5]
  refine TL.call (by simp[hC]) rfl rfl (aI.of rfl (by first | rfl | simp only[List.cons_append,List.nil_append,List.append_nil,trees,tree,ag,ak,Bool.and_self,Bool.and_true,Bool.true_and]) (hcd)) (TL.go' aa ?_)
  simp[hC]
  refine T.ret ?_
  refine ae.here ?_
  have hnT:j9 (m:Int)=jx m:=by
   unfold j9
   rw[if_neg hn]
   simp
  rw[hnT]
  simp[Tryz.results128]
def rH (e x:Ex)(i:Nat):ByteArray:=qK (nW e x i) (ij x)
theorem BT (b:Bool)(x:ByteArray):(qK b x).size≤x.size+2:=by
 unfold qK
 split
 ·rw[ByteArray.size_append,ByteArray.size_append]
  have h1:(⟨#[40]⟩:ByteArray).size=1:=rfl
  have h2:(⟨#[41]⟩:ByteArray).size=1:=rfl
  omega
 ·omega
def J154 (e:Ex)(tl:List ByteArray)(n:Nat)(s:St):Prop:=∃ i:Nat,n=e.args.length-i∧i≤e.args.length∧s=⟨[(4,I i),(3,.bw 1 0 i),(1,.aq 0 0)],[(0,⟨64,0,[I e.kF,I e.n,.str e.name,.ax (e.args.flatMap bB) e.args.length]⟩),(1,ba (tl.take i))],2⟩
theorem IB:∀ k,k<13→lZ (5+k)≤4∧∃ i,i<(opsL (lZ (5+k))).2.length∧(opsL (lZ (5+k))).1.length=(opsL (lZ (5+k))).2.length∧(opsL (lZ (5+k))).2[i]? = some ((5+k:Nat):Int)∧(opsL (lZ (5+k))).1[i]? = some (z8.getD k ⟨#[]⟩)∧(opsL (lZ (5+k))).2.length≤6∧∀ j,j<i→∀ o,(opsL (lZ (5+k))).2[j]? = some o→o≠((5+k:Nat):Int)
 | 0,_=>⟨by decide,0,by decide,rfl,rfl,rfl,by decide,by decide⟩
 | 1,_=>⟨by decide,1,by decide,rfl,rfl,rfl,by decide,by decide⟩
 | 2,_=>⟨by decide,2,by decide,rfl,rfl,rfl,by decide,by decide⟩
 | 3,_=>⟨by decide,0,by decide,rfl,rfl,rfl,by decide,by decide⟩
 | 4,_=>⟨by decide,1,by decide,rfl,rfl,rfl,by decide,by decide⟩
 | 5,_=>⟨by decide,2,by decide,rfl,rfl,rfl,by decide,by decide⟩
 | 6,_=>⟨by decide,3,by decide,rfl,rfl,rfl,by decide,by decide⟩
 | 7,_=>⟨by decide,4,by decide,rfl,rfl,rfl,by decide,by decide⟩
 | 8,_=>⟨by decide,5,by decide,rfl,rfl,rfl,by decide,by decide⟩
 | 9,_=>⟨by decide,0,by decide,rfl,rfl,rfl,by decide,by decide⟩
 | 10,_=>⟨by decide,1,by decide,rfl,rfl,rfl,by decide,by decide⟩
 | 11,_=>⟨by decide,0,by decide,rfl,rfl,rfl,by decide,by decide⟩
 | 12,_=>⟨by decide,0,by decide,rfl,rfl,rfl,by decide,by decide⟩
 | _+13,h=>absurd h (by omega)
theorem mL (e:Ex)(tl:List ByteArray)(htl:tl.length=e.args.length)(he:e.kF≤17)(hal:e.args.length≤2)(R:ByteArray)
  (ha:∀ i x,e.args[i]? = some x→x.kF≤17∧ah Tryz.prog 154 [.agg (bB x)] (.str (ij x))∧(ij x).size≤100000∧tl[i]? = some (rH e x i))
  (hR:(∃ n:Nat,e=.num n∧n<4611686018427387904∧R=jx n)∨(∃ x,e=.nm x∧R=x)∨(∃ k x,e=.un k x∧k<2∧R=(if k=0 then ⟨#[45]⟩ else ⟨#[33]⟩)++tl.getD 0 eS)∨(∃ k a b,e=.bin k a b∧k<13∧R=tl.getD 0 eS++⟨#[32]⟩++z8.getD k ⟨#[]⟩++⟨#[32]⟩++tl.getD 1 eS)):ah Tryz.prog 154 [.agg (bB e)] (.str R):=by
 have hflat:=fun (i:Nat) (x:Ex) (h:e.args[i]? = some x)=>aV (f:=bB) (n:=4) bA (m:=e.args) h
 have hin:=fun (i:Nat) (x:Ex) (h:e.args[i]? = some x)=>yb e i x h (ha i x h).1 he
 have hts:∀ x∈tl,x.size≤100002:=by
  intro x hx
  obtain⟨i,hi⟩:=List.getElem?_of_mem hx
  have hil:i<e.args.length:=by rw[← htl];exact (List.getElem?_eq_some_iff.1 hi).1
  obtain⟨y,hy⟩:∃ y,e.args[i]? = some y:=⟨e.args[i],List.getElem?_eq_getElem hil⟩
  obtain⟨_,_,h3,h4⟩:=ha i y hy
  rw[hi] at h4
  cases h4
  have:=BT (nW e y i) (ij y)
  unfold rH
  omega
 rw[bP,F5] at hin ⊢
 refine ah.bl aa Tryz.func154 rfl (by kernel_rfl) (by simp[Tryz.ntmps154]) rfl fun C hC hC0=>?_
 rw[Tryz.ntmps154] at hC
 refine T.seq (T.go' aa ?_)
 simp[hC]
 refine T.seq (T.go' aa ?_)
 simp[hC]
 refine T.cut (fun s=>s=⟨[(3,.bw 1 0 e.args.length),(1,.aq 0 0)],[(0,⟨64,0,[I e.kF,I e.n,.str e.name,.ax (e.args.flatMap bB) e.args.length]⟩),(1,ba tl)],2⟩) ?_ ?_
 ·refine T.seq (T.go' aa ?_)
  simp[hC]
  refine T.block ?_
  refine T.aS (J154 e tl) (n:=e.args.length) ?_ ?_
  ·refine ae.le (Le.own 3 9 1 rfl) ?_
   simp
   refine ae.trim [4,3,1] [0,1] 2 (by simp) (by omega) ⟨0,by omega,by omega,?_⟩
   simp[ba]
  ·rintro n s ⟨i,rfl,hil,rfl⟩
   by_cases hi:i<e.args.length
   ·obtain⟨x,hx⟩:∃ x,e.args[i]? = some x:=⟨e.args[i],List.getElem?_eq_getElem hi⟩
    have hdr:=hflat i x hx
    obtain⟨x1,x2,x3,x4⟩:=ha i x hx
    have hix:=hin i x hx
    rw[show (decide (x.st<e.st) || (decide (x.st=e.st) && decide (i=1)))=nW e x i from rfl] at hix
    have wi:=db ((i:Int)+1) (by omega) (by omega)
    refine T.seq (T.seq (T.go' aa ?_))
    simp[hC,hi]
    refine T.cond (b:=true) rfl (T.skip ?_)
    simp
    refine T.seq (T.block ?_)
    refine T.seq (T.go' aa ?_)
    simp[hC,hi,hdr]
    refine TL.call (by simp[hC]) rfl rfl (aI.of rfl (by first | rfl | simp only[List.append_nil,trees,tree,ag,Bool.and_self]) (x2)) (TL.go' aa ?_)
    simp[hC]
    refine T.cut (fun s=>s=⟨[(5,.str (rH e x i)),(4,I i),(3,.bw 1 0 i),(1,.aq 0 0)],[(0,⟨64,0,[I e.kF,I e.n,.str e.name,.ax (e.args.flatMap bB) e.args.length]⟩),(1,ba (tl.take i))],2⟩) ?_ ?_
    ·refine T.seq (T.go' aa ?_)
     simp[hC]
     refine TL.call (by simp[hC]) rfl rfl (aI.of rfl (by first | rfl | simp only[List.cons_append,List.nil_append,List.append_nil,trees,tree,ag,ak,Bool.and_self,Bool.and_true,Bool.true_and]) (hix)) (TL.go' aa ?_)
     simp
     refine T.bf rfl (fun h=>?_) (fun h=>?_)
     ·have h1:nW e x i=true:=by simpa using h
      have s1:=av ⟨#[40]⟩ (ij x) (by have:(⟨#[40]⟩:ByteArray).size=1:=rfl;omega)
      have s2:=av (⟨#[40]⟩++ij x) ⟨#[41]⟩ (by rw[ByteArray.size_append];have:(⟨#[40]⟩:ByteArray).size=1:=rfl;have:(⟨#[41]⟩:ByteArray).size=1:=rfl;omega)
      refine T.go' aa ?_
      simp[hC,s1,s2]
      refine ae.trim [5,4,3,1] [0,1] 2 (by simp) (by omega) ?_
      simp[rH,qK,h1]
     ·have h1:nW e x i=false:=by simpa using h
      refine T.skip ?_
      simp
      refine ae.trim [5,4,3,1] [0,1] 2 (by simp) (by omega) ?_
      simp[rH,qK,h1]
    rintro s rfl
    have hb1:(i+1)*16≤140737488355328:=by omega
    have hwl:(ba (tl.take i)).cells.length=i:=by simp[ba];omega
    have hws:(ba (tl.take i)).sz=1:=rfl
    have hwe:(ba (tl.take i)).elem=9:=rfl
    refine T.go' aa ?_
    simp[hC,hb1,hwl,hws,hwe,aX]
    refine T.go' aa ?_
    simp[hC,wi]
    refine⟨e.args.length-(i+1),by omega,?_⟩
    refine ae.le (Le.trim [4,3,1] [0,3] 4 (by simp[-List.all_eq_true]) (by omega)) ?_
    simp
    refine ae.le (Le.na 3 1 rfl rfl (by omega) (by simp) (by simp) (by simp[-List.all_eq_true])) ?_
    simp
    refine ae.trim [4,3,1] [0,1] 2 (by simp[-List.all_eq_true]) (by omega) ⟨i+1,rfl,by omega,?_⟩
    have htk:tl.take (i+1)=tl.take i++[rH e x i]:=by rw[List.take_add_one,x4];rfl
    rw[htk]
    simp[ba]
   ·have hie:i=e.args.length:=by omega
    refine T.seq (T.seq (T.go' aa ?_))
    simp[hC,hi]
    refine T.cond (b:=false) rfl ?_
    simp
    refine T.exit ?_
    simp
    refine ae.trim [3,1] [0,1] 2 (by simp) (by omega) ?_
    rw[hie,← htl,List.take_length]
    simp
 ·rintro s rfl
  rcases hR with ⟨n,rfl,hn,rfl⟩ | ⟨x,rfl,rfl⟩ | ⟨k,x,rfl,hk,rfl⟩ | ⟨k,a,b,rfl,hk,rfl⟩
  ·have hcn:=nR n (by omega) (by omega)
   have hnT:j9 (n:Int)=jx n:=by
    unfold j9
    rw[if_neg (by omega)]
    simp
   rw[hnT] at hcn
   refine T.seq (T.block ?_)
   refine T.seq (T.go' aa ?_)
   simp[hC,Ex.kF,Ex.n,Ex.name,Ex.args]
   refine T.cond (b:=true) rfl ?_
   simp
   refine T.seq (T.go' aa ?_)
   simp[hC]
   refine TL.call (by simp[hC]) rfl rfl (aI.of rfl (by first | rfl | simp only[List.cons_append,List.nil_append,List.append_nil,trees,tree,ag,ak,Bool.and_self,Bool.and_true,Bool.true_and]) (hcn)) (TL.go' aa ?_)
   simp[hC]
   refine T.ret ?_
   refine ae.here ?_
   simp[Tryz.results154]
  ·refine T.seq (T.block ?_)
   refine T.seq (T.go' aa ?_)
   simp[hC,Ex.kF,Ex.n,Ex.name,Ex.args]
   refine T.cond (b:=false) rfl ?_
   simp
   refine T.seq (T.go' aa ?_)
   simp[hC]
   refine T.cond (b:=true) rfl ?_
   simp
   refine T.seq (T.go' aa ?_)
   simp[hC]
   refine T.ret ?_
   refine ae.here ?_
   simp[Tryz.results154]
  ·have h1:tl.length=1:=htl
   have hdr:=iw (ns:=tl) (i:=0) (by omega)
   rw[List.drop_zero] at hdr
   have hnm:(ba tl).cells=.str (tl.getD 0 eS)::(tl.map CV.str).drop 1:=hdr
   have hns:(ba tl).sz=1:=rfl
   have hsz:=hts (tl.getD 0 eS) (iz (by omega) eS)
   generalize tl.getD 0 eS=t0 at hnm hsz
   have s45:(⟨#[45]⟩:ByteArray).size=1:=rfl
   have s33:(⟨#[33]⟩:ByteArray).size=1:=rfl
   refine T.seq (T.block ?_)
   match k,hk with
   | 0,_=>
    have so:=av ⟨#[45]⟩ t0 (by omega)
    refine T.seq (T.go' aa ?_)
    simp[hC,Ex.kF,Ex.n,Ex.name,Ex.args]
    refine T.cond (b:=false) rfl ?_
    simp
    refine T.seq (T.go' aa ?_)
    simp[hC]
    refine T.cond (b:=false) rfl ?_
    simp
    refine T.seq (T.go' aa ?_)
    simp[hC]
    refine T.cond (b:=true) rfl ?_
    simp
    refine T.seq (T.go' aa ?_)
    simp[hC,hnm,so]
    refine T.ret ?_
    refine ae.here ?_
    simp[Tryz.results154]
   | 1,_=>
    have so:=av ⟨#[33]⟩ t0 (by omega)
    refine T.seq (T.go' aa ?_)
    simp[hC,Ex.kF,Ex.n,Ex.name,Ex.args]
    refine T.cond (b:=false) rfl ?_
    simp
    refine T.seq (T.go' aa ?_)
    simp[hC]
    refine T.cond (b:=false) rfl ?_
    simp
    refine T.seq (T.go' aa ?_)
    simp[hC]
    refine T.cond (b:=false) rfl ?_
    simp
    refine T.seq (T.go' aa ?_)
    simp[hC]
    refine T.cond (b:=true) rfl ?_
    simp
    refine T.seq (T.go' aa ?_)
    simp[hC,hnm,so]
    refine T.ret ?_
    refine ae.here ?_
    simp[Tryz.results154]
  ·have h1:tl.length=2:=htl
   have hdr:=iw (ns:=tl) (i:=0) (by omega)
   have hdr1:=iw (ns:=tl) (i:=1) (by omega)
   rw[List.drop_zero,hdr1] at hdr
   have hnm:(ba tl).cells=[.str (tl.getD 0 eS),.str (tl.getD 1 eS)]:=by
    have e3:(tl.map CV.str).drop (1+1)=[]:=List.drop_eq_nil_of_le (by simp;omega)
    rw[e3] at hdr
    exact hdr
   have hns:(ba tl).sz=1:=rfl
   have hsz0:=hts (tl.getD 0 eS) (iz (by omega) eS)
   have hsz1:=hts (tl.getD 1 eS) (iz (by omega) eS)
   generalize tl.getD 0 eS=t0 at hnm hsz0
   generalize tl.getD 1 eS=t1 at hnm hsz1
   obtain⟨hst4,ix,hix,hsl,hio,hso,h6,hmiss⟩:=IB k hk
   have hbz:(z8.getD k ⟨#[]⟩).size≤2:=(by decide:∀ k,k<13→(z8.getD k ⟨#[]⟩).size≤2) k hk
   have hcs:=e8 (5+k) (by omega)
   have hcg:=Dm _ hst4
   generalize z8.getD k ⟨#[]⟩=bo at hso hbz
   generalize lZ (5+k)=sk at hcs hcg hix hsl hio hso h6 hmiss hst4
   generalize hsg:(opsL sk).1=sl at *
   generalize hog:(opsL sk).2=ol at *
   have n1:((5+k:Nat):Int)=5+(k:Int):=by omega
   rw[n1] at hcs hio hmiss
   have k1:((5:Int)+k == 1)=false:=by simp;omega
   have k2:((5:Int)+k == 2)=false:=by simp;omega
   have k3:((5:Int)+k == 3)=false:=by simp;omega
   have k4:((5:Int)+k == 4)=false:=by simp;omega
   refine T.seq (T.block ?_)
   refine T.seq (T.go' aa ?_)
   simp[hC,Ex.kF,Ex.n,Ex.name,Ex.args,k1]
   refine T.cond (b:=false) rfl ?_
   simp
   refine T.seq (T.go' aa ?_)
   simp[hC,k2]
   refine T.cond (b:=false) rfl ?_
   simp
   refine T.seq (T.go' aa ?_)
   simp[hC,k3]
   refine T.cond (b:=false) rfl ?_
   simp
   refine T.seq (T.go' aa ?_)
   simp[hC,k4]
   refine T.cond (b:=false) rfl ?_
   simp
   refine T.skip ?_
   simp
   refine T.le (Le.trim [3,1] [0,1] 2 (by simp) (by omega)) ?_
   simp
   refine T.seq (T.go' aa ?_)
   simp[hC]
   refine TL.call (by simp[hC]) rfl rfl (aI.of rfl (by first | rfl | simp only[List.cons_append,List.nil_append,List.append_nil,trees,tree,ag,ak,Bool.and_self,Bool.and_true,Bool.true_and]) (hcs)) (TL.go' aa ?_)
   simp
   refine TL.call (by simp[hC]) rfl rfl (aI.of rfl (by first | rfl | simp only[List.cons_append,List.nil_append,List.append_nil,trees,tree,ag,ak,Bool.and_self,Bool.and_true,Bool.true_and]) (hcg)) (TL.go' aa ?_)
   simp[hC]
   have q1:(⟨#[32]⟩:ByteArray).size=1:=rfl
   have s1:=av t0 ⟨#[32]⟩ (by omega)
   have s2:=av (t0++⟨#[32]⟩) bo (by rw[ByteArray.size_append];omega)
   have s3:=av (t0++⟨#[32]⟩++bo) ⟨#[32]⟩ (by rw[ByteArray.size_append,ByteArray.size_append];omega)
   have s4:=av (t0++⟨#[32]⟩++bo++⟨#[32]⟩) t1 (by rw[ByteArray.size_append,ByteArray.size_append,ByteArray.size_append];omega)
   obtain⟨X,hX⟩:∃ X,t0++⟨#[32]⟩++bo++⟨#[32]⟩++t1=X:=⟨_,rfl⟩
   rw[hX] at s4 ⊢
   refine T.le (Le.trim [7,6,3,1] [0,1] 2 (by simp[strs,ints]) (by omega)) ?_
   simp
   refine T.seq (T.seq (T.go' aa ?_))
   simp[hC]
   refine T.block ?_
   refine T.aS (fun n s=>∃ i:Nat,n=ix-i∧i≤ix∧s=⟨[(8,I i),(7,ints ol),(6,strs sl),(3,.bw 1 0 2),(1,.aq 0 0)],[(0,⟨64,0,[I (5+k),I 0,.str eS,.ax (bB a++bB b) 2]⟩),(1,ba tl)],2⟩) (n:=ix) ?_ ?_
   ·refine ae.trim [8,7,6,3,1] [0,1] 2 (by simp[strs,ints]) (by omega) ⟨0,by omega,by omega,?_⟩
    simp
   ·rintro n s ⟨i,rfl,hi,rfl⟩
    have hil:i<ol.length:=by omega
    obtain⟨o,ho⟩:∃ o,ol[i]? = some o:=⟨ol[i],List.getElem?_eq_getElem hil⟩
    have hdo:(ol.map qP).drop i=I o::(ol.map qP).drop (i+1):=by
     rw[List.drop_eq_getElem_cons (by simpa using hil)]
     have:=(List.getElem?_eq_some_iff.1 ho).2
     simp[qP,this]
    have wi:=db ((i:Int)+1) (by omega) (by omega)
    refine T.seq (T.seq (T.go' aa ?_))
    simp[hC,ints,strs,hil]
    refine T.cond (b:=true) rfl (T.skip ?_)
    simp
    refine T.seq (T.block ?_)
    refine T.seq ?_
    refine T.rx aa follows [0,1,2,3,4,5,6] [] (by kernel_rfl) ?_
    simp[hC,hil,hdo]
    by_cases hie:i=ix
    ·subst hie
     rw[hio] at ho
     have hoe:o=5+(k:Int):=by simpa using ho.symm
     have hsd:(sl.map CV.str).drop i=.str bo::(sl.map CV.str).drop (i+1):=by
      have:=iw (ns:=sl) (i:=i) (by omega)
      rw[this]
      simp[List.getD,hso]
     have hisl:i<sl.length:=by omega
     refine T.bf rfl (fun h=>?_) (fun h=>?_)
     ·refine T.seq ?_
      refine T.rx aa follows [0,1,2,3,4,5,6,7,8,9,10,11,12,13,14] [] (by kernel_rfl) ?_
      simp[hC,hnm,hisl,hsd,s1,s2,s3,s4]
      refine T.ret ?_
      refine ae.here ?_
      simp[Tryz.results154]
     ·simp[hoe] at h
    ·have hne:=hmiss i (by omega) o ho
     refine T.bf rfl (fun h=>?_) (fun h=>?_)
     ·simp at h;exact absurd h hne
     refine T.skip ?_
     simp
     refine T.go' aa ?_
     simp[hC,wi]
     refine⟨ix-(i+1),by omega,?_⟩
     refine ae.trim [8,7,6,3,1] [0,1] 2 (by simp) (by omega) ⟨i+1,rfl,by omega,?_⟩
     simp
end Go.Proofs.YtmnglemlimfpbaaGreat
