/- Within, Cut, Next, number. -/
import Derived.Test.YtlkmbdfhdknlgaaGreatZ17
namespace Go.Proofs.YtlkmbdfhdknlgaaGreat
open Go.Can Go.aJ List Tryz
theorem zY (x n:Int)(h0:0<n)(h1:n<=4611686018427387904):(IntKind.i64.wrap (x.tmod n+n)).tmod n=x % n/\n≠0:=by
 have Vl : -n<x.tmod n:=by
  have:=Int.lt_tmod_of_pos x h0;omega
 have TG:x.tmod n<n:=Int.tmod_lt_of_pos x h0;have hw:=cF (x.tmod n+n) yA yA;refine⟨?_,by omega⟩;rw[hw,Int.tmod_eq_emod_of_nonneg yA,Int.add_emod_right,Int.tmod_def];simp
theorem yF (x n:Int)(h0:0<n)(h1:n<=4611686018427387904):ae prog 32 [I x,I n] (I (x % n)):=by
 refine ae.aE ah Tryz.func32 rfl Ix (by simp[Tryz.ntmps32]) rfl λ C hC RR=>?_;rw[Tryz.ntmps32] at hC;obtain⟨ha,hn⟩:=zY x n h0 h1;apply aq;simp[hC];apply aq;simp[hC,hn,ha];apply T.ret;apply aa.here;simp[Tryz.results32]
theorem Qm (l:List Int)(n:Nat)(_hl:l.length<=9223372036854775807):ae prog 64 [ints l,I n] (ints (l.take n)):=by
 refine ae.aE ah Tryz.func64 rfl Ix (by simp[Tryz.ntmps64]) rfl λ C hC RR=>?_;rw[Tryz.ntmps64] at hC;apply aq;simp[hC];apply aW;simp[hC,ints];refine T.bu rfl (λ h=>?_) (λ h=>?_)
 ·have hn:n<l.length:=by simpa using h
  have WZ:n<=l.length:=by omega
  apply aq;simp[hC,hn,WZ];apply T.ret;apply aa.here;simp[Tryz.results64]
 ·have hn:l.length<=n:=by simpa using h
  apply T.skip;simp;apply aq;simp[hC];apply T.ret;apply aa.here;simp[Tryz.results64];exact⟨(take_of_length_le (by simpa using hn)).symm,(Nat.min_eq_right hn).symm⟩
def aG (L:List Int)(i:Nat):Ob:=⟨126,0,[ints L,I i]⟩
def bt (l:List ByteArray):Ob:=⟨9,1,l.map .str⟩
theorem fe (l:List ByteArray):trees (l.map CV.str)=true:=by
 induction l with
 | nil=>rfl
 | cons a r ih=>simp only[map_cons,trees,ih,tree,Bool.and_self]
@[simp] theorem nmOb_frz (l:List ByteArray)(o:Nat)(cs:List CV)(n:Nat):(⟨(bt l).elem,(bt l).sz,(bt l).cells.map (cw o cs n)⟩:Ob)=bt l:=by simp[bt]
@[simp] theorem QW (ρ:Nat->Nat)(l:List ByteArray):bh ρ (bt l)=bt l:=by
 simp only[bh,bt,af ρ _ (fe l)]
@[simp] theorem Pj (ρ:Nat->Nat)(L:List Int)(i:Nat):bh ρ (aG L i)=aG L i:=by
 simp only[bh,aG,af ρ [ints L,I i] rfl]
@[simp] theorem MT (l:List ByteArray)(n:Nat):(bt l).cells.all (aU n)=true:=ai (fe l) n
@[simp] theorem nmOb_lts (l:List ByteArray)(n:Nat):ba n (bt l).cells=true:=by rw[aT];exact ai (fe l) n
@[simp] theorem NR (l:List ByteArray)(n:Nat):l.all (aU n∘CV.str)=true:=all_eq_true.2 λ _ _=>rfl
@[simp] theorem OM (l:List ByteArray)(o q:Nat):l.all (od o q∘CV.str)=true:=all_eq_true.2 λ _ _=>rfl
@[simp] theorem Ik (l:List ByteArray)(n o q:Nat):l.all (aU n∘dC o q∘CV.str)=true:=all_eq_true.2 λ _ _=>rfl
@[simp] theorem Px (o q:Nat):dC o q∘CV.str=CV.str:=rfl
@[simp] theorem nmOb_ok1 (l:List ByteArray)(o q:Nat):(bt l).cells.all (od o q)=true:=bw (fe l) o q
@[simp] theorem HH (l:List ByteArray)(o q:Nat):(bt l).cells.map (dC o q)=(bt l).cells:=bl (fe l) o q
@[simp] theorem nmOb_eta (l:List ByteArray):(⟨(bt l).elem,(bt l).sz,(bt l).cells⟩:Ob)=bt l:=rfl
@[simp] theorem Rk (l:List ByteArray)(n o q:Nat):(bt l).cells.all (aU n∘dC o q)=true:=by rw[<- all_map,HH];exact MT l n
@[simp] theorem QS (L:List Int)(i o:Nat)(cs:List CV)(n:Nat):(⟨(aG L i).elem,(aG L i).sz,(aG L i).cells.map (cw o cs n)⟩:Ob)=aG L i:=by simp[aG,ints]
theorem cL (L:List Int)(i n:Nat)(_hi:i<=L.length)(hL:L.length<=1000)(hn:0<n)(Up:n<=4611686018427387904) :
  Body prog av 65 [.aw 0 0,I n] [(0,aG L i)] 1 (jC (I (cq L i n).1) [(0,aG L (cq L i n).2)] 1):=by
 refine Body.jv Tryz.func65 rfl Ix (by simp[Tryz.ntmps65]) λ C hC RR=>?_;rw[Tryz.ntmps65] at hC;apply aq;simp[hC];refine T.seq (T.seq ?_);refine T.rx ah follows [0,1,2,3,4,5,6,7,8,9] [] Ix ?_;simp[hC,aG,ints];refine T.bu rfl (λ h=>?_) (λ h=>?_)
 ·have Og:L.length<=i:=by simpa using h
  have hx:cq L i n=(0,i):=by
   unfold cq;rw[getElem?_eq_none Og]
  apply aq;simp[hC];apply T.ret;refine aa.trim [4] [0] 1 xr yA ⟨_,rfl,?_⟩;simp[jC,hx]
 ·have Og:i<L.length:=by simpa using h
  obtain⟨x,Wz⟩:∃ x,L[i]? = some x:=⟨L[i],getElem?_eq_getElem Og⟩;have hx:cq L i n=((x % (n:Int)).toNat,i+1):=by
   unfold cq;rw[Wz]
  have wi:=cF ((i:Int)+1) yA yA;have wj:((i:Int)+1)-1=(i:Int):=by omega
  have wk:=cF (i:Int) yA yA;have he:=Int.emod_nonneg x (show (n:Int)≠0 by omega);have het:(((x % (n:Int)).toNat:Nat):Int)=x % n:=Int.toNat_of_nonneg he;have hxd:(L.map dc).drop i=I x::(L.map dc).drop (i+1):=by
   rw[drop_eq_getElem_cons (by simpa using Og)];have:=(List.getElem?_eq_some_iff.1 Wz).2;simp[dc,this]
  apply T.skip;simp;apply aq;simp[hC,wi];apply T.seq;refine T.rx ah follows [0,1,2,3,4,5,6,7,8,9,10,11,12,13] [] Ix ?_;simp[hC,wj,wk,Og,hxd];refine RX.call rfl xr rfl rfl rfl rfl (yF x n yA yA) ?_;simp;apply T.ret;refine aa.trim [4] [0] 1 xr yA ⟨_,rfl,?_⟩;simp[jC,hx,het]
theorem HF (L:List Int)(i:Nat)(hi:i<=L.length)(hL:L.length<=1000) :
  Body prog av 189 [.aw 0 0] [(0,aG L i)] 1 (jC (I (yp L i).1) [(0,aG L (yp L i).2)] 1):=by
 refine Body.jv Tryz.func189 rfl Ix (by simp[Tryz.ntmps189]) λ C hC RR=>?_;rw[Tryz.ntmps189] at hC;apply aq;simp[hC];apply aW;simp[hC];refine TL.cU ah [0] 1 (cL L i 8 hi hL yA yA) RT rfl rfl rfl rfl xr SZ SY rfl (TL.go' ah ?_);simp[hC];have hi8:=bq L 8 hi;refine T.bu rfl (λ h=>?_) (λ h=>?_)
 ·have h1:(cq L i 8).1=1:=by simp at h;omega
  apply aq;simp[hC];refine TL.cU ah [0] 1 (cL L _ 4611686018427387904 hi8 hL yA yA) RT rfl rfl rfl rfl xr SZ SY rfl (TL.go' ah ?_);simp[hC];apply T.ret;refine aa.trim [2] [0] 1 V1 yA ⟨_,rfl,?_⟩;simp[jC,yp,h1]
 ·have h1:¬ (cq L i 8).1=1:=by simp at h;omega
  apply T.skip;simp;apply aq;simp[hC];refine TL.cU ah [0] 1 (cL L _ 4 hi8 hL yA yA) RT rfl rfl rfl rfl xr SZ SY rfl (TL.go' ah ?_);simp[hC];apply T.ret;refine aa.trim [2] [0] 1 V1 yA ⟨_,rfl,?_⟩;simp[jC,yp,h1]
def Iw:List CV:=[.int .i64 0,.int .i64 0,.str ⟨#[]⟩,.aj]
theorem ju {ns:List ByteArray}{i:Nat}(h:i<ns.length):(ns.map CV.str).drop i=.str (ns.getD i eS)::(ns.map CV.str).drop (i+1):=by
 rw[drop_eq_getElem_cons TK];simp[h]
theorem KP (L:List Int)(ns:List ByteArray)(d i:Nat)(h:d=0\/(cq L i 10).1<2):su L ns d i=sb L ns (cq L i 10).2:=by
 cases d with
 | zero=>rfl
 | succ d=>
  rw[su,if_pos];rcases h with h | h
  ·cases h
  ·exact h
theorem bg:∀ a b:List CV,trees (a++b)=(trees a && trees b)
 | [],b=>by simp[trees]
 | x::r,b=>by simp[trees,Bool.and_assoc]
@[simp] theorem aL (e:Ex):trees (bf e)=true:=by cases e<;>rfl
theorem drop8 (a:Ex)(x y z w:CV):drop 8 (bf a++[x,y,z,w])=[]:=drop_eq_nil_of_le (by simp[bA])
theorem q9 (e:Ex):take 4 (bf e)=bf e:=take_of_length_le (by simp[bA])
theorem Ha (a b:Ex):take 8 (bf a++bf b)=bf a++bf b:=take_of_length_le (by simp[bA])
theorem Jr (n:Nat)(e:Ex)(x:CV)(h:x∈bf e):aU n x=true:=by
 rw[bW] at h;simp only[mem_cons,not_mem_nil,or_false] at h;rcases h with rfl | rfl | rfl | rfl<;>rfl
theorem gV (n:Nat)(e:Ex):(bf e).all (aU n)=true:=all_eq_true.2 (Jr n e)
@[simp] theorem nz_exC (e:Ex):(bf e).map nz=bf e:=by cases e<;>rfl
@[simp] theorem frz_exC (o:Nat)(cs:List CV)(n:Nat)(e:Ex):(bf e).map (cw o cs n)=bf e:=by cases e<;>rfl
attribute [simp] q9 Ha bA
theorem wD (L:List Int)(hL:L.length<=1000)(ns:List ByteArray)(UI:ns.length<=1000):∀ (d i:Nat),d<=1000->i<=L.length ->
  Body prog av 159 [.aw 0 0,.bb 3 0 ns.length,I d] [(0,aG L i),(3,bt ns)] 4 (jC (.agg (bf (su L ns d i).1)) [(0,aG L (su L ns d i).2),(3,bt ns)] 4):=by
 intro d
 induction d using Nat.strongRecOn with
 | _ d ih=>
 intro i hd hi;refine Body.jv Tryz.func159 rfl Ix (by simp[Tryz.ntmps159]) λ C hC RR=>?_;rw[Tryz.ntmps159] at hC;apply aq;simp[hC];apply aq;simp[hC];refine TL.cU ah [0] 1 (cL L i 10 hi hL yA yA) RT rfl rfl rfl rfl xr SZ SY rfl (TL.go' ah ?_);simp[hC];have Sz:=bq L 10 hi;have Xf:=KP L ns d i;generalize hk:cq L i 10=k at Sz Xf;apply eN;refine T.cut (λ s=>s=⟨[(10,.bool (decide (d=0) || decide (k.1<2))),(7,I k.1),(6,.aw 4 0),(0,.aw 0 0),(1,.bb 3 0 ns.length),(2,I d)],[(0,aG L k.2),(3,bt ns),(4,⟨85,0,Iw⟩)],5⟩) ?_ ?_
 ·by_cases h0:d=0
  ·apply aN;simp[hC,h0];refine aa.trim [10,7,6,0,1,2] [0,3,4] 5 V1 yA ?_;simp[Iw]
  ·apply aN;simp[hC,h0];refine aa.trim [10,7,6,0,1,2] [0,3,4] 5 V1 yA ?_;simp[Iw]
 ·rintro s rfl;refine T.bu rfl (λ h=>?_) (λ h=>?_)
  ·have hl:d=0\/k.1<2:=by simpa using h
   rw[Xf hl];clear Xf ih
      /- the leaf: is there a name to be taken? -/
   refine T.seq (T.cut (λ s=>s=⟨[(24,.bool (decide (0<ns.length/\(cq L k.2 2).1=1))),(6,.aw 4 0),(0,.aw 0 0),(1,.bb 3 0 ns.length)],[(0,aG L (if 0<ns.length then (cq L k.2 2).2 else k.2)),(3,bt ns),(4,⟨85,0,Iw⟩)],5⟩) ?_ ?_)
   ·by_cases hns0:0<ns.length
    ·apply aN;simp[hC,hns0];refine TL.cU ah [0] 1 (cL L k.2 2 Sz hL yA yA) RT rfl rfl rfl rfl xr SZ SY rfl (TL.go' ah ?_);simp[hC];refine aa.trim [24,6,0,1] [0,3,4] 5 (by simp[aG,Iw]) yA ?_;simp[Iw]
    ·apply aN;simp[hC,hns0];refine aa.trim [24,6,0,1] [0,3,4] 5 (by simp[aG,Iw]) yA ?_;simp[Iw]
   ·rintro s rfl;have Tc:=bq L 2 Sz;refine T.bu rfl (λ h=>?_) (λ h=>?_)
    ·have hh:0<ns.length/\(cq L k.2 2).1=1:=by simpa using h
     have RS:=dE L (cq L k.2 2).2 hh.1;have Qd:=ju RS;apply aq;simp[hC,hh.1];refine TL.cU ah [0] 1 (cL L _ ns.length Tc hL yA yA) RT rfl rfl rfl rfl xr SZ SY rfl (TL.go' ah ?_);simp[hC,RS,Qd,bt,Iw];apply T.ret;refine aa.le (Le.nz [] [4]) ?_;simp;refine aa.le (Le.dn (o:=4) rfl rfl) ?_;simp;refine aa.trim [6] [0,3] 4 V1 yA ⟨_,rfl,?_⟩;simp[jC,sb,hh.1,hh.2,bf,eS,RS]
    ·have hh:¬ (0<ns.length/\(cq L k.2 2).1=1):=by simpa using h
     have Wl:(if 0<ns.length then (cq L k.2 2).2 else k.2)<=L.length:=by
      split
      ·exact Tc
      ·exact Sz
     apply T.skip;simp;apply aq;simp[hC];refine TL.cU ah [0] 1 (HF L _ Wl hL) RT rfl rfl rfl rfl xr SZ SY rfl (TL.go' ah ?_);simp[hC,Iw];apply T.ret;refine aa.le (Le.nz [] [4]) ?_;simp;refine aa.le (Le.dn (o:=4) rfl rfl) ?_;simp;refine aa.trim [6] [0,3] 4 V1 yA ⟨_,rfl,?_⟩;simp[jC,sb,hh,bf,eS]
  ·have WJ:¬ d=0/\¬ k.1<2:=by simpa using h
   obtain⟨e,rfl⟩:∃ e,d=e+1:=⟨d-1,by omega⟩;have Zt:((e+1:Nat):Int)-1=(e:Int):=by omega
   have we:=cF (e:Int) yA yA;have ihe:=ih e yA;apply aq;simp[hC];refine T.bu rfl (λ h=>?_) (λ h=>?_)
   ·have hk4:k.1<4:=by simpa using h
    have hx:su L ns (e+1) i=(.un (k.1 % 2) (su L ns e k.2).1,(su L ns e k.2).2):=by
     rw[su,hk,if_neg WJ.2,if_pos hk4]
    have Yl:=oZ L ns e Sz;have wm:=cF (3+(k.1:Int) % 2) yA yA;have htm:(k.1:Int).tmod 2=(k.1:Int) % 2:=Int.tmod_eq_emod_of_nonneg yA;apply aq;simp[hC,we,htm,wm];refine TL.cU ah [0,3] 4 (ihe k.2 yA Sz) RT rfl rfl rfl rfl xr SZ SY rfl (TL.go' ah ?_);simp[hC,Iw,bA,aY];apply T.ret;refine aa.le (Le.trim [6] [0,3,4,5] 6 yCq yA) ?_;simp;refine aa.le (Le.dn (o:=5) rfl (by simp only[aL])) ?_;simp;refine aa.le (Le.dn (o:=4) rfl rfl) ?_;simp;refine aa.trim [6] [0,3] 4 V1 yA ⟨_,rfl,?_⟩;simp[jC,hx,bf,eS]
   ·have hk4:¬ k.1<4:=by simpa using h
    have hx:su L ns (e+1) i=(.bin (cq L k.2 13).1 (su L ns e (cq L k.2 13).2).1 (su L ns e (su L ns e (cq L k.2 13).2).2).1,(su L ns e (su L ns e (cq L k.2 13).2).2).2):=by
     rw[su,hk,if_neg WJ.2,if_neg hk4]
    have Yl:=bq L 13 Sz;have Zp:=oZ L ns e Yl;have wb:=cF (5+((cq L k.2 13).1:Int)) yA (by have:=dE L k.2 (show 0<13 by omega);omega);apply T.skip;simp;apply aq;simp[hC];refine TL.cU ah [0] 1 (cL L k.2 13 Sz hL yA yA) RT rfl rfl rfl rfl xr SZ SY rfl (TL.go' ah ?_);simp[hC,wb,we];refine TL.cU ah [0,3] 4 (ihe _ yA Yl) RT rfl rfl rfl rfl xr SZ SY rfl (TL.go' ah ?_);simp[hC,we];refine TL.cU ah [0,3] 4 (ihe _ yA Zp) RT rfl rfl rfl rfl xr SZ SY rfl (TL.go' ah ?_);simp[hC,Iw,bA,aY,drop8];apply T.ret;refine aa.le (Le.trim [6] [0,3,4,5] 6 yCq yA) ?_;simp;refine aa.le (Le.dn (o:=5) rfl (by simp only[bg,aL,Bool.and_self])) ?_;simp;refine aa.le (Le.dn (o:=4) rfl rfl) ?_;simp;refine aa.trim [6] [0,3] 4 V1 yA ⟨_,rfl,?_⟩;simp[jC,hx,bf,eS]
end Go.Proofs.YtlkmbdfhdknlgaaGreat
namespace Go.aJ
open Go.Can List
def fY (left:Nat):ByteArray:=⟨#[118]⟩++⟨#[UInt8.ofNat (97+left % 26),UInt8.ofNat (97+left / 26 % 26)]⟩
structure OW where
 out:List Sm
 vars:List ByteArray
 i:Nat
 left:Nat
structure Wr where
 L:List Int
 ar:Bool
 ms:List Mx
 fs:List (ByteArray×List Pm)
abbrev Rec:=List ByteArray->Nat->Nat->Nat->Nat->List Sm×Nat×Nat
def De (w:Wr)(rec:Rec)(ps:List Pm)(vars:List ByteArray)(i left:Nat):OW:=
 ⟨.dP false (jH w.L w.ar w.ms ps vars i).1::(rec vars 0 2 (jH w.L w.ar w.ms ps vars i).2 left).1++[.dP true (jH w.L w.ar w.ms ps vars i).1],vars,(rec vars 0 2 (jH w.L w.ar w.ms ps vars i).2 left).2.1,(rec vars 0 2 (jH w.L w.ar w.ms ps vars i).2 left).2.2⟩
def iq (w:Wr)(ps:List Pm)(vars:List ByteArray)(go:Bool)(i left:Nat):OW:=
 ⟨[.eJ go (w.fs.getD (cq w.L i w.fs.length).1 (eS,[])).1 (dx w.L w.ar w.ms ps vars (w.fs.getD (cq w.L i w.fs.length).1 (eS,[])).2 (cq w.L i w.fs.length).2).1],vars,(dx w.L w.ar w.ms ps vars (w.fs.getD (cq w.L i w.fs.length).1 (eS,[])).2 (cq w.L i w.fs.length).2).2,left⟩
def RA (w:Wr)(rec:Rec)(vars:List ByteArray)(deep i left:Nat):OW:=
 let e:=dH w.L w.ar vars i
 let th:=rec vars (deep-1) 3 e.2 left
 let c:=cq w.L th.2.1 2
 if c.1=1 then
  let el:=rec vars (deep-1) 3 c.2 th.2.2
  ⟨[.mf e.1 th.1 el.1],vars,el.2.1,el.2.2⟩
 else ⟨[.mf e.1 th.1 []],vars,c.2,th.2.2⟩
def QO (w:Wr)(rec:Rec)(vars:List ByteArray)(deep i left:Nat):OW:=
 let e:=dH w.L w.ar vars i
 let th:=rec vars (deep-1) 3 e.2 left
 ⟨[.cS e.1 th.1],vars,th.2.1,th.2.2⟩
def Bx (w:Wr)(rec:Rec)(ps:List Pm)(vars:List ByteArray)(deep i0 left:Nat):OW:=
 let k:=(cq w.L i0 14).1
 let i:=(cq w.L i0 14).2
 if k<4 then ⟨[.dP false (jH w.L w.ar w.ms ps vars i).1],vars,(jH w.L w.ar w.ms ps vars i).2,left⟩
 else if k<7 then ⟨[.dP true (jH w.L w.ar w.ms ps vars i).1],vars,(jH w.L w.ar w.ms ps vars i).2,left⟩
 else if k=7 then ⟨[.iz (fY left) (dH w.L w.ar vars i).1],vars++[fY left],(dH w.L w.ar vars i).2,left⟩
 else if k=8/\0<vars.length then ⟨[.jd (vars.getD (cq w.L i vars.length).1 eS) (dH w.L w.ar vars (cq w.L i vars.length).2).1],vars,(dH w.L w.ar vars (cq w.L i vars.length).2).2,left⟩
 else if k=9 then iq w ps vars false i left
 else if k=10 then iq w ps vars true i left
 else if k=11/\0<deep then RA w rec vars deep i left
 else if k=12/\0<deep then QO w rec vars deep i left
 else if k=13/\(cq w.L i 3).1=1 then ⟨[.jP],vars,(cq w.L i 3).2,left⟩
 else if k=13 then De w rec ps vars (cq w.L i 3).2 left
 else De w rec ps vars i left
def uZ (w:Wr)(rec:Rec)(ps:List Pm)(deep:Nat):Nat->List ByteArray->Nat->Nat->List Sm×Nat×Nat
 | 0,_,i,left=>([],i,left)
 | n+1,vars,i,left=>
  if left=0 then ([],i,left) else
  let s:=Bx w rec ps vars deep i (left-1)
  let r:=uZ w rec ps deep n s.vars s.i s.left
  (s.out++r.1,r.2)
def oq (w:Wr)(ps:List Pm):Nat->Rec
 | 0=>λ _ _ most i left=>([],(cq w.L i (most+1)).2,left)
 | f+1=>λ vars deep most i left=>uZ w (oq w ps f) ps deep (cq w.L i (most+1)).1 vars (cq w.L i (most+1)).2 left
def ye (L:List Int)(rec:Rec):Prop:=∀ vars deep most i left,i<=L.length->(rec vars deep most i left).2.1<=L.length/\(rec vars deep most i left).1.length+2*(rec vars deep most i left).2.2<=2*left
structure LA (L:List Int)(vars:List ByteArray)(left:Nat)(b:OW):Prop where
 i:b.i<=L.length
 n:b.out.length+2*b.left<=2*(left+1)
 v:b.vars.length+b.left<=vars.length+left+1
 l:b.left<=left
 p:0<b.out.length
theorem Gy {w:Wr}{rec:Rec}(h:ye w.L rec)(ps:List Pm)(vars:List ByteArray){i:Nat}(left:Nat)(hi:i<=w.L.length):LA w.L vars left (De w rec ps vars i left):=by
 obtain⟨h1,h2⟩:=h vars 0 2 _ left (rO w.L w.ar w.ms ps vars hi);refine⟨h1,?_,?_,?_,?_⟩<;>simp only[De,length_append,length_cons,length_nil]<;>omega
theorem Dv {w:Wr}(ps:List Pm)(vars:List ByteArray)(go:Bool){i:Nat}(left:Nat)(hi:i<=w.L.length):LA w.L vars left (iq w ps vars go i left):=by
 refine⟨sO _ _ _ _ _ _ (bq _ _ hi),?_,?_,?_,?_⟩<;>simp only[iq,length_cons,length_nil]<;>omega
theorem O3 {w:Wr}{rec:Rec}(h:ye w.L rec)(vars:List ByteArray)(deep:Nat){i:Nat}(left:Nat)(hi:i<=w.L.length):LA w.L vars left (QO w rec vars deep i left):=by
 obtain⟨h1,h2⟩:=h vars (deep-1) 3 _ left (kN w.L w.ar vars hi);refine⟨h1,?_,?_,?_,?_⟩<;>simp only[QO,length_cons,length_nil]<;>omega
theorem P7 {w:Wr}{rec:Rec}(h:ye w.L rec)(vars:List ByteArray)(deep:Nat){i:Nat}(left:Nat)(hi:i<=w.L.length):LA w.L vars left (RA w rec vars deep i left):=by
 obtain⟨h1,h2⟩:=h vars (deep-1) 3 _ left (kN w.L w.ar vars hi);obtain⟨h3,h4⟩:=h vars (deep-1) 3 (cq w.L (rec vars (deep-1) 3 (dH w.L w.ar vars i).2 left).2.1 2).2 (rec vars (deep-1) 3 (dH w.L w.ar vars i).2 left).2.2 (bq _ _ h1);unfold RA;simp only;split
 ·refine⟨h3,?_,?_,?_,?_⟩<;>simp only[length_cons,length_nil]<;>omega
 ·refine⟨bq _ _ h1,?_,?_,?_,?_⟩<;>simp only[length_cons,length_nil]<;>omega
theorem Ja {w:Wr}{rec:Rec}(h:ye w.L rec)(ps:List Pm)(vars:List ByteArray)(deep:Nat){i:Nat}(left:Nat)(hi:i<=w.L.length):LA w.L vars left (Bx w rec ps vars deep i left):=by
 have Sz:=bq w.L 14 hi;unfold Bx;simp only;split
 ·exact⟨rO _ _ _ _ _ Sz,by simp<;>omega,by simp<;>omega,Nat.le_refl _,by simp⟩
 split
 ·exact⟨rO _ _ _ _ _ Sz,by simp<;>omega,by simp<;>omega,Nat.le_refl _,by simp⟩
 split
 ·exact⟨kN _ _ _ Sz,by simp<;>omega,by simp<;>omega,Nat.le_refl _,by simp⟩
 split
 ·exact⟨kN _ _ _ (bq _ _ Sz),by simp<;>omega,by simp<;>omega,Nat.le_refl _,by simp⟩
 split
 ·exact Dv ps vars false left Sz
 split
 ·exact Dv ps vars true left Sz
 split
 ·exact P7 h vars deep left Sz
 split
 ·exact O3 h vars deep left Sz
 split
 ·exact⟨bq _ _ Sz,by simp<;>omega,by simp<;>omega,Nat.le_refl _,by simp⟩
 split
 ·exact Gy h ps vars left (bq _ _ Sz)
 ·exact Gy h ps vars left Sz
theorem Kd {w:Wr}{rec:Rec}(h:ye w.L rec)(ps:List Pm)(deep:Nat):∀ (n:Nat) (vars:List ByteArray) (i left:Nat),i<=w.L.length->(uZ w rec ps deep n vars i left).2.1<=w.L.length/\(uZ w rec ps deep n vars i left).1.length+2*(uZ w rec ps deep n vars i left).2.2<=2*left
 | 0,vars,i,left,hi=>⟨hi,by simp[uZ]⟩
 | n+1,vars,i,left,hi=>by
  rw[uZ];split
  ·exact⟨hi,by simp⟩
  ·have h1:=Ja h ps vars deep (left-1) hi;obtain⟨h2,h3⟩:=Kd h ps deep n (Bx w rec ps vars deep i (left-1)).vars (Bx w rec ps vars deep i (left-1)).i (Bx w rec ps vars deep i (left-1)).left h1.i;refine⟨h2,?_⟩;have:=h1.n;simp only[length_append];omega
theorem vU (w:Wr)(ps:List Pm):∀ f:Nat,ye w.L (oq w ps f)
 | 0=>λ vars deep most i left hi=>⟨bq _ _ hi,by simp[oq]⟩
 | f+1=>λ vars deep most i left hi=>Kd (vU w ps f) ps deep _ vars _ left (bq _ _ hi)
def eP (n:Nat):ByteArray:=⟨#[UInt8.ofNat n]⟩
def sU (L:List Int):Nat->Nat->Nat->List Mx×Nat
 | 0,_,i=>([],i)
 | n+1,j,i=>
  if (cq L i 5).1=1 then (⟨eP (97+j),true,0⟩ :: (sU L n (j+1) (cq L i 5).2).1,(sU L n (j+1) (cq L i 5).2).2)
  else if (cq L i 5).1=2 then (⟨eP (97+j),false,1+(cq L (cq L i 5).2 3).1⟩ :: (sU L n (j+1) (cq L (cq L i 5).2 3).2).1,(sU L n (j+1) (cq L (cq L i 5).2 3).2).2)
  else (⟨eP (97+j),false,0⟩ :: (sU L n (j+1) (cq L i 5).2).1,(sU L n (j+1) (cq L i 5).2).2)
def yu (L:List Int):Nat->Nat->Nat->List Gl×Nat
 | 0,_,i=>([],i)
 | n+1,j,i=>(⟨⟨#[103]⟩++eP (48+j),((cq L i 5).1:Int)-2⟩ :: (yu L n (j+1) (cq L i 5).2).1,(yu L n (j+1) (cq L i 5).2).2)
def FT (L:List Int):Nat->Nat->List Pm×Nat
 | 0,i=>([],i)
 | n+1,i=>(⟨⟨#[112]⟩++eP (48+(n+1)),decide (0<(cq L i 3).1)⟩ :: (FT L n (cq L i 3).2).1,(FT L n (cq L i 3).2).2)
def xz (L:List Int):Nat->Nat->Nat->List Fu×Nat
 | 0,_,i=>([],i)
 | n+1,j,i=>
  let p:=FT L (if j=0 then 0 else (cq L i 3).1) (cq L i 3).2
  (⟨if j=0 then ⟨#[109,97,105,110]⟩ else ⟨#[102]⟩++eP (48+j),p.1,[]⟩ :: (xz L n (j+1) p.2).1,(xz L n (j+1) p.2).2)
def jS (gs:List Gl)(ps:List Pm):List ByteArray:=gs.map (·.name)++ps.flatMap λ p=>if p.mutex=true then [] else [p.name]
def NK (w:Wr)(gs:List Gl):Nat->Nat->List Fu->Nat->Nat->List Fu
 | 0,_,fs,_,_=>fs
 | n+1,j,fs,i,left=>
  match fs[j]? with
  | none=>fs
  | some f=>
   let b:=oq w f.params left (jS gs f.params) 2 6 i left
   NK w gs n (j+1) (fs.set j ⟨f.name,f.params,b.1⟩) b.2.1 b.2.2
def DL (l:List Int):Pg:=
 let L:=l.take 400
 let a:=cq L 0 3
 let nm:=cq L a.2 4
 let ms:=sU L (1+nm.1) 0 nm.2
 let ng:=cq L ms.2 3
 let gs:=yu L ng.1 0 ng.2
 let nf:=cq L gs.2 4
 let fs:=xz L (nf.1+1) 0 nf.2
 ⟨gs.1,ms.1,NK ⟨L,decide (a.1=1),ms.1,fs.1.map λ f=>(f.name,f.params)⟩ gs.1 (nf.1+1) 0 fs.1 fs.2 24⟩
def ji (c:UInt8):Bool:=c == 32 || c == 9 || c == 10 || c == 13
def isLet (c:UInt8):Bool:=(decide (97<=c.toNat) && decide (c.toNat<=122)) || (decide (65<=c.toNat) && decide (c.toNat<=90)) || decide (c.toNat=95)
def dr (c:UInt8):Bool:=decide (48<=c.toNat) && decide (c.toNat<=57)
def gf (c:UInt8):Bool:=isLet c || dr c
def ua:List (List UInt8):=[[118,97,114],[109,117,116,101,120],[114,109,117,116,101,120],[102,117,110,99],[108,111,99,107],[117,110,108,111,99,107],[103,111],[105,102],[101,108,115,101],[119,104,105,108,101],[114,101,116,117,114,110]]
def nq:List UInt8:=[40,41,123,125,91,93,44,59,61,43,45,42,47,37,60,62,33]
def s7:List (UInt8×UInt8):=[(60,61),(62,61),(61,61),(33,61),(38,38),(124,124)]
def l9 (w:List UInt8):Nat:=w.foldl (λ n c=>10*n+(c.toNat-48)) 0
def vG:List UInt8->Nat
 | a::b::_=>if (a,b)∈s7 then 2 else if a∈nq then 1 else 0
 | [a]=>if a∈nq then 1 else 0
 | []=>0
inductive Lx:List UInt8->Nat->Prop
 | nil (n:Nat):Lx [] n
 | sp {c:UInt8} {r:List UInt8} {n:Nat}:ji c=true->Lx r n->Lx (c::r) n
 | nm {c:UInt8} {r:List UInt8} {n:Nat}:isLet c=true->(((c::r).takeWhile gf).length<=16\/(c::r).takeWhile gf∈ua)->Lx ((c::r).dropWhile gf) n->Lx (c::r) (n+1)
 | num {c:UInt8} {r:List UInt8} {n:Nat}:dr c=true->l9 ((c::r).takeWhile dr)<9223372036854775808->Lx ((c::r).dropWhile dr) n->Lx (c::r) (n+1)
 | sg {c:UInt8} {r:List UInt8} {n:Nat}:isLet c=false->dr c=false->ji c=false->(c=47->r.head?≠some 47)->0<vG (c::r)->Lx ((c::r).drop (vG (c::r))) n->Lx (c::r) (n+1)
theorem Lx.mono {r:List UInt8}{n m:Nat}(h:Lx r n)(hm:n<=m):Lx r m:=by
 induction h generalizing m with
 | nil=>exact .nil _
 | sp a _ ih=>exact .sp a (ih hm)
 | nm a b _ ih=>
  obtain⟨k,rfl⟩:∃ k,m=k+1:=⟨m-1,by omega⟩;exact .nm a b (ih yA)
 | num a b _ ih=>
  obtain⟨k,rfl⟩:∃ k,m=k+1:=⟨m-1,by omega⟩;exact .num a b (ih yA)
 | sg a b c d e _ ih=>
  obtain⟨k,rfl⟩:∃ k,m=k+1:=⟨m-1,by omega⟩;exact .sg a b c d e (ih yA)
def Stop (r:List UInt8):Prop:=∀ c,r.head? = some c->gf c=false/\c≠61/\c≠47
theorem kk {p:UInt8->Bool}:∀ (w r:List UInt8),(w.all p=true)->(∀ c,r.head? = some c->p c=false)->(w++r).takeWhile p=w/\(w++r).dropWhile p=r
 | [],r,_,h=>by
  cases r with
  | nil=>exact⟨rfl,rfl⟩
  | cons c r=>
   have:=h c rfl;simp[this]
 | a::w,r,ha,h=>by
  simp only[all_cons,Bool.and_eq_true] at ha;obtain⟨h1,h2⟩:=kk w r ha.2 h;constructor
  ·rw[cons_append,takeWhile_cons,if_pos ha.1,h1]
  ·rw[cons_append,dropWhile_cons,if_pos ha.1,h2]
def NU (s:List UInt8)(k:Nat):Prop:=∀ r n,Stop r->Lx r n->Lx (s++r) (n+k)
theorem NU.name {s:List UInt8}(h0:∃ c t,s=c::t/\isLet c=true)(h1:s.all gf=true)(h2:s.length<=16\/s∈ua):NU s 1:=by
 intro r n hr hl;obtain⟨c,t,rfl,hc⟩:=h0;obtain⟨e1,e2⟩:=kk (c::t) r h1 λ x hx=>(hr x hx).1;rw[cons_append] at e1 e2 |-;exact Lx.nm hc (by rw[e1];exact h2) (by rw[e2];exact hl)
theorem NU.num {s:List UInt8}(h0:s≠[])(h1:s.all dr=true)(h2:l9 s<9223372036854775808):NU s 1:=by
 intro r n hr hl
 cases s with
 | nil=>exact absurd rfl h0
 | cons c t=>
  have hd:∀ x,r.head? = some x->dr x=false:=λ x hx=>by
   have:=(hr x hx).1;simp only[gf,Bool.or_eq_false_iff] at this;exact this.2
  obtain⟨e1,e2⟩:=kk (c::t) r h1 hd;simp only[all_cons,Bool.and_eq_true] at h1;rw[cons_append] at e1 e2 |-;exact Lx.num h1.1 (by rw[e1];exact h2) (by rw[e2];exact hl)
theorem Lx.one {c:UInt8}{r:List UInt8}{n:Nat}(hc:c∈nq)(hr:∀ x,r.head? = some x->x≠61/\x≠47)(hl:Lx r n):Lx (c::r) (n+1):=by
 have hx:(∀ b,(c,b)∈s7->b=61):=by
  intro b hb;simp only[nq,mem_cons,not_mem_nil,or_false] at hc;rcases hc with rfl | rfl | rfl | rfl | rfl | rfl | rfl | rfl | rfl | rfl | rfl | rfl | rfl | rfl | rfl | rfl | rfl<;>simp_all [s7]
 have hs:vG (c::r)=1:=by
  cases r with
  | nil=>simp[vG,hc]
  | cons b t=>
   have hb:(c,b)∉s7:=λ h=>(hr b rfl).1 (hx b h);simp[vG,hc,hb]
 have h3:isLet c=false/\dr c=false/\ji c=false:=by
  simp only[nq,mem_cons,not_mem_nil,or_false] at hc;rcases hc with rfl | rfl | rfl | rfl | rfl | rfl | rfl | rfl | rfl | rfl | rfl | rfl | rfl | rfl | rfl | rfl | rfl<;>decide
 refine Lx.sg h3.1 h3.2.1 h3.2.2 (λ _ h=>(hr 47 h).2 rfl) (by rw[hs];exact Nat.one_pos) ?_;rw[hs];exact hl
theorem Lx.Ay {c:UInt8}{r:List UInt8}{n:Nat}(hc:c∈nq)(h:c≠60/\c≠62/\c≠61/\c≠33/\c≠47)(hl:Lx r n):Lx (c::r) (n+1):=by
 have hs:vG (c::r)=1:=by
  cases r with
  | nil=>simp[vG,hc]
  | cons b t=>
   have hb:(c,b)∉s7:=by
    simp only[nq,mem_cons,not_mem_nil,or_false] at hc;rcases hc with rfl | rfl | rfl | rfl | rfl | rfl | rfl | rfl | rfl | rfl | rfl | rfl | rfl | rfl | rfl | rfl | rfl<;>simp_all [s7]
   simp[vG,hc,hb]
 have h3:isLet c=false/\dr c=false/\ji c=false:=by
  simp only[nq,mem_cons,not_mem_nil,or_false] at hc;rcases hc with rfl | rfl | rfl | rfl | rfl | rfl | rfl | rfl | rfl | rfl | rfl | rfl | rfl | rfl | rfl | rfl | rfl<;>decide
 refine Lx.sg h3.1 h3.2.1 h3.2.2 (λ e=>absurd e h.2.2.2.2) (by rw[hs];exact Nat.one_pos) ?_;rw[hs];exact hl
theorem Lx.two {a b:UInt8}{r:List UInt8}{n:Nat}(hc:(a,b)∈s7)(hl:Lx r n):Lx (a::b::r) (n+1):=by
 have hs:vG (a::b::r)=2:=by simp[vG,hc]
 have h3:isLet a=false/\dr a=false/\ji a=false/\a≠47:=by
  simp only[s7,mem_cons,not_mem_nil,or_false,Prod.mk.injEq] at hc;rcases hc with ⟨rfl,_⟩ | ⟨rfl,_⟩ | ⟨rfl,_⟩ | ⟨rfl,_⟩ | ⟨rfl,_⟩ | ⟨rfl,_⟩<;>decide
 refine Lx.sg h3.1 h3.2.1 h3.2.2.1 (λ e=>absurd e h3.2.2.2) (by rw[hs];omega) ?_;rw[hs];exact hl
theorem Stop.cons {c:UInt8}(r:List UInt8)(h:gf c=false/\c≠61/\c≠47):Stop (c::r):=by
 intro x hx;simp only[head?_cons,Option.some.injEq] at hx;exact hx ▸ h
theorem Lx.inv {c:UInt8}{r:List UInt8}{n:Nat}(h:Lx (c::r) n)(hs:ji c=false):∃ m,n=m+1/\
  ((isLet c=true/\(((c::r).takeWhile gf).length<=16\/(c::r).takeWhile gf∈ua)/\Lx ((c::r).dropWhile gf) m)\/
   (isLet c=false/\dr c=true/\l9 ((c::r).takeWhile dr)<9223372036854775808/\Lx ((c::r).dropWhile dr) m)\/
   (isLet c=false/\dr c=false/\(c=47->r.head?≠some 47)/\0<vG (c::r)/\Lx ((c::r).drop (vG (c::r))) m)):=by
 cases h with
 | sp a _=>rw[a] at hs;cases hs
 | nm a b d=>exact⟨_,rfl,.inl ⟨a,b,d⟩⟩
 | num a b d=>
  have hn:isLet c=false:=by
   simp only[dr,Bool.and_eq_true,decide_eq_true_eq] at a;simp only[isLet,Bool.or_eq_false_iff,Bool.and_eq_false_iff,decide_eq_false_iff_not];omega
  exact⟨_,rfl,.inr (.inl ⟨hn,a,b,d⟩)⟩
 | sg a b d e f g=>exact⟨_,rfl,.inr (.inr ⟨a,b,e,f,g⟩)⟩
def sT (l:List UInt8):Nat:=(l.takeWhile ji).length
theorem Lx.skip {r:List UInt8}{n:Nat}(h:Lx r n):Lx (r.drop (sT r)) n:=by
 induction h with
 | nil n=>exact .nil n
 | @sp c r n a b ih=>
  have:sT (c::r)=sT r+1:=by simp[sT,a]
  rw[this,drop_succ_cons];exact ih
 | @nm c r n a b d _=>
  have hs:ji c=false:=by
   simp only[isLet,Bool.or_eq_true,Bool.and_eq_true,decide_eq_true_eq] at a
   cases h:ji c with
   | false=>rfl
   | true=>
    simp only[ji,Bool.or_eq_true,beq_iff_eq] at h;rcases h with ((rfl | rfl) | rfl) | rfl<;>revert a<;>decide
  have:sT (c::r)=0:=by simp[sT,hs]
  rw[this];exact .nm a b d
 | @num c r n a b d _=>
  have hs:ji c=false:=by
   simp only[dr,Bool.and_eq_true,decide_eq_true_eq] at a
   cases h:ji c with
   | false=>rfl
   | true=>
    simp only[ji,Bool.or_eq_true,beq_iff_eq] at h;rcases h with ((rfl | rfl) | rfl) | rfl<;>revert a<;>decide
  have:sT (c::r)=0:=by simp[sT,hs]
  rw[this];exact .num a b d
 | @sg c r n a b d e f g _=>
  have:sT (c::r)=0:=by simp[sT,d]
  rw[this];exact .sg a b d e f g
theorem BU {l:List UInt8}{c:UInt8}(h:(l.drop (sT l)).head? = some c):ji c=false:=by
 unfold sT at h
 induction l with
 | nil=>simp at h
 | cons a r ih=>
  cases ha:ji a with
  | true=>
   simp only[takeWhile_cons,ha,if_true,length_cons,drop_succ_cons] at h;exact ih h
  | false=>
   simp only[takeWhile_cons,ha] at h;simp at h;rw[<- h];exact ha
def bs (s:ByteArray):List UInt8:=s.data.toList
theorem g8 (a b:ByteArray):bs (a++b)=bs a++bs b:=by simp[bs,ByteArray.data_append]
theorem bs_mk (l:List UInt8):bs ⟨l.toArray⟩=l:=by simp[bs]
def kO (n:Nat):ByteArray:=if n<10 then eP (48+n) else kO (n / 10)++eP (48+n % 10)
termination_by n
decreasing_by omega
def lW (n:Int):ByteArray:=if n<0 then ⟨#[45]⟩++kO (-n).toNat else kO n.toNat
def oC (op:Nat):Nat:=if op=17 then 0 else if op=16 then 1 else if 10<=op/\op<=15 then 2 else if op=8\/op=9 then 3 else if 5<=op/\op<=7 then 4 else if op=3\/op=4 then 5 else 6
def Ex.mA:Ex->Nat
 | .zero=>0
 | .num _=>1
 | .nm _=>2
 | .un k _=>3+k
 | .bin k _ _=>5+k
 | .loc _=>18
 | .jk _=>19
def Ex.st (e:Ex):Nat:=oC e.mA
def vp (b:Bool)(x:ByteArray):ByteArray:=if b=true then ⟨#[40]⟩++x++⟨#[41]⟩ else x
def Fg:List ByteArray:=[⟨#[42]⟩,⟨#[47]⟩,⟨#[37]⟩,⟨#[43]⟩,⟨#[45]⟩,⟨#[60]⟩,⟨#[60,61]⟩,⟨#[62]⟩,⟨#[62,61]⟩,⟨#[61,61]⟩,⟨#[33,61]⟩,⟨#[38,38]⟩,⟨#[124,124]⟩]
def jn:Ex->ByteArray
 | .num n=>kO n
 | .nm s=>s
 | .un k e=>(if k=0 then ⟨#[45]⟩ else ⟨#[33]⟩)++vp (decide (e.st<5)) (jn e)
 | .bin k a b=>vp (decide (a.st<oC (5+k))) (jn a)++⟨#[32]⟩++Fg.getD k ⟨#[]⟩++⟨#[32]⟩++vp (decide (b.st<=oC (5+k))) (jn b)
 | _=>⟨#[]⟩
def Eg (r:Rf):ByteArray:=match r.index with
 | none=>r.name
 | some e=>r.name++⟨#[91]⟩++jn e++⟨#[93]⟩
def RM:Ar->ByteArray
 | .xf r=>⟨#[109,117,116,101,120,32]⟩++Eg r
 | .exp e=>jn e
def yb:Bool->List Ar->ByteArray
 | _,[]=>⟨#[]⟩
 | first,a::r=>(if first=true then ⟨#[]⟩ else ⟨#[44,32]⟩)++RM a++yb false r
def vw (l:List Ar):ByteArray:=⟨#[40]⟩++yb true l++⟨#[41]⟩
def BQ:ByteArray:=⟨#[118,97,114,32]⟩
def I1:ByteArray:=⟨#[32,61,32]⟩
def jt:ByteArray:=⟨#[59]⟩
def QQ:ByteArray:=⟨#[103,111,32]⟩
def yP:ByteArray:=⟨#[108,111,99,107,32]⟩
def pA:ByteArray:=⟨#[117,110,108,111,99,107,32]⟩
def QP:ByteArray:=⟨#[105,102,32]⟩
def z9:ByteArray:=⟨#[119,104,105,108,101,32]⟩
def rz:ByteArray:=⟨#[32,123,10]⟩
def lK:ByteArray:=⟨#[125]⟩
def BS:ByteArray:=⟨#[32,101,108,115,101,32,123,10]⟩
def L7:ByteArray:=⟨#[114,101,116,117,114,110,59]⟩
def tNl:ByteArray:=⟨#[10]⟩
def rv:ByteArray:=⟨#[9]⟩
mutual
def lL (I9:ByteArray):Sm->ByteArray
 | .iz s e=>BQ++s++I1++jn e++jt
 | .jd s e=>s++I1++jn e++jt
 | .eJ g s l=>(if g=true then QQ++s else s)++vw l++jt
 | .dP u r=>(if u=true then pA else yP)++Eg r++jt
 | .mf e th el=>QP++jn e++rz++jF (I9++rv) th++I9++lK++(if el.length=0 then ⟨#[]⟩ else BS++jF (I9++rv) el++I9++lK)
 | .cS e th=>z9++jn e++rz++jF (I9++rv) th++I9++lK
 | .jP=>L7
def jF (I9:ByteArray):List Sm->ByteArray
 | []=>⟨#[]⟩
 | s::r=>I9++lL I9 s++tNl++jF I9 r
end
def Ot (g:Gl):ByteArray:=BQ++g.name++(if g.init=0 then ⟨#[]⟩ else I1++lW g.init)++⟨#[59,10]⟩
def MU (m:Mx):ByteArray:=(if m.re=true then ⟨#[114]⟩ else ⟨#[]⟩)++⟨#[109,117,116,101,120,32]⟩++m.name++(if m.size=0 then ⟨#[]⟩ else ⟨#[91]⟩++lW m.size++⟨#[93]⟩)++⟨#[59,10]⟩
def wQ:Bool->List Pm->ByteArray
 | _,[]=>⟨#[]⟩
 | first,p::r=>(if first=true then ⟨#[]⟩ else ⟨#[44,32]⟩)++(if p.mutex=true then ⟨#[109,117,116,101,120,32]⟩ else ⟨#[]⟩)++p.name++wQ false r
def Iv (f:Fu):ByteArray:=⟨#[102,117,110,99,32]⟩++f.name++⟨#[40]⟩++wQ true f.params++⟨#[41,32,123,10]⟩++jF rv f.body++⟨#[125,10]⟩
def j3 {α:Type}(f:α->ByteArray):List α->ByteArray
 | []=>⟨#[]⟩
 | a::r=>f a++j3 f r
def Hz (p:Pg):ByteArray:=j3 Ot p.gs++j3 MU p.ms++j3 Iv p.fs
def dF (s:ByteArray):Prop:=(∃ c t,bs s=c::t/\isLet c=true)/\(bs s).all gf=true/\(bs s).length<=16
def ck (S:List UInt8->Prop)(s:ByteArray)(k b:Nat):Prop:=(bs s).length<=b/\∀ r n,S r->Lx r n->Lx (bs s++r) (n+k)
def Any (_:List UInt8):Prop:=True
theorem ck.app {S S':List UInt8->Prop}{s s':ByteArray}{k k' b b':Nat}(h:ck S s k b)(h':ck S' s' k' b')(hS:∀ r,S' r->S (bs s'++r)):ck S' (s++s') (k' + k) (b+b'):=by
 refine⟨by rw[g8,length_append];have:=h.1;have:=h'.1;omega,λ r n hr hl=>?_⟩;rw[g8,append_assoc,<- Nat.add_assoc];exact h.2 _ _ (hS r hr) (h'.2 r n hr hl)
theorem ck.mono {S:List UInt8->Prop}{s:ByteArray}{k k' b b':Nat}(h:ck S s k b)(hk:k<=k')(hb:b<=b'):ck S s k' b':=
 ⟨Nat.le_trans h.1 hb,λ r n hr hl=>(h.2 r n hr hl).mono yA⟩
theorem ck.any {s:ByteArray}{k b:Nat}(h:ck Any s k b)(S:List UInt8->Prop):ck S s k b:=⟨h.1,λ r n _ hl=>h.2 r n trivial hl⟩
theorem ck.nil (S:List UInt8->Prop):ck S ⟨#[]⟩ 0 0:=⟨Nat.le_refl _,λ _ _ _ hl=>hl⟩
theorem ck.nm {s:ByteArray}(h:dF s):ck Stop s 1 16:=⟨h.2.2,NU.name h.1 h.2.1 (.inl h.2.2)⟩
theorem ck.word {l:List UInt8}(h0:∃ c t,l=c::t/\isLet c=true)(h1:l.all gf=true)(h2:l.length<=16)(s:ByteArray)(hs:bs s=l++[32]):ck Any s 1 17:=by
 refine⟨by rw[hs];simp;omega,λ r n _ hl=>?_⟩;rw[hs,append_assoc];exact NU.name h0 h1 (.inl h2) _ _ (Stop.cons _ R1) (Lx.sp R1 hl)
theorem ck.sign {c:UInt8}(hc:c∈nq)(h:c≠60/\c≠62/\c≠61/\c≠33/\c≠47):ck Any ⟨#[c]⟩ 1 1:=⟨Nat.le_refl _,λ _ _ _ hl=>Lx.Ay hc h hl⟩
theorem sG (n:Nat):bs (eP n)=[UInt8.ofNat n]:=rfl
theorem AZ:∀ n:Nat,(bs (kO n)).all dr=true/\bs (kO n)≠[]/\l9 (bs (kO n))=n/\∀ b,n<10 ^ (b+1)->(bs (kO n)).length<=b+1:=by
 intro n
 induction n using Nat.strongRecOn with
 | _ n ih=>
 have hd:∀ k,k<10->dr (UInt8.ofNat (48+k))=true/\(UInt8.ofNat (48+k)).toNat-48=k:=by decide
 rw[kO];split
 ·rename_i h;obtain⟨a,b⟩:=hd n h;refine⟨by rw[sG];simp only[all_cons,all_nil,a,Bool.and_self],by rw[sG];simp,by rw[sG];simp only[l9,foldl_cons,foldl_nil,b];omega,λ b hb=>by rw[sG];simp⟩
 ·rename_i h;obtain⟨a,b⟩:=hd (n % 10) yA;obtain⟨i1,i2,i3,i4⟩:=ih (n / 10) yA;rw[g8,sG];refine⟨by rw[all_append,i1];simp only[all_cons,all_nil,a,Bool.and_self],by simp,?_,λ b hb=>?_⟩
  ·unfold l9 at i3 |-;rw[foldl_append,i3];simp only[foldl_cons,foldl_nil,b];omega
  ·cases b with
   | zero=>omega
   | succ b=>
    have:=i4 b (by rw[Nat.pow_succ] at hb;omega);simp;omega
theorem ck.dig {n:Nat}(h:n<9223372036854775808):ck Stop (kO n) 1 19:=by
 obtain⟨i1,i2,i3,i4⟩:=AZ n;exact⟨i4 18 yA,NU.num i2 i1 (by rw[i3];exact h)⟩
def gu (ns:List ByteArray):Nat->Ex->Prop
 | _,.num n=>n<4611686018427387904
 | _,.nm s=>s∈ns
 | d+1,.un k e=>k<2/\gu ns d e
 | d+1,.bin k a b=>k<13/\gu ns d a/\gu ns d b
 | _,_=>False
def DP:Nat->Nat
 | 0=>1
 | d+1=>2*DP d+5
def Hd (s:ByteArray):Prop:=∃ c t,bs s=c::t/\c≠61/\c≠47
theorem Hd.app {s:ByteArray}(h:Hd s)(t:ByteArray):Hd (s++t):=by
 obtain⟨c,u,h1,h2⟩:=h;exact⟨c,u++bs t,by rw[g8,h1,cons_append],h2⟩
theorem Hd.nm {s:ByteArray}(h:dF s):Hd s:=by
 obtain⟨⟨c,t,h1,h2⟩,_⟩:=h;refine⟨c,t,h1,?_,?_⟩<;>rintro rfl<;>revert h2<;>decide
theorem Hd.dig (n:Nat):Hd (kO n):=by
 obtain⟨i1,i2,_,_⟩:=AZ n
 cases hb:bs (kO n) with
 | nil=>exact absurd hb i2
 | cons c t=>
  rw[hb] at i1;simp only[all_cons,Bool.and_eq_true] at i1;refine⟨c,t,hb,?_,?_⟩<;>rintro rfl<;>have:=i1.1<;>revert this<;>decide
theorem Hd.par {s:ByteArray}(h:Hd s)(b:Bool):Hd (vp b s):=by
 unfold vp;split
 ·exact Hd.app (Hd.app ⟨40,[],rfl,by decide,by decide⟩ _) _
 ·exact h
theorem Hd.ex {ns:List ByteArray}(hn:∀ s∈ns,dF s):∀ (d:Nat) (e:Ex),gu ns d e->Hd (jn e)
 | _,.num n,_=>Hd.dig n
 | _,.nm s,h=>Hd.nm (hn s (by simpa [gu] using h))
 | d+1,.un k e,h=>by
  simp only[jn];refine Hd.app ?_ _;split
  ·exact⟨45,[],rfl,by decide,by decide⟩
  ·exact⟨33,[],rfl,by decide,by decide⟩
 | d+1,.bin k a b,h=>by
  simp only[gu] at h;simp only[jn];exact Hd.app (Hd.app (Hd.app (Hd.app (Hd.par (Hd.ex hn d a h.2.1) _) _) _) _) _
 | 0,.un _ _,h=>h.elim
 | 0,.bin _ _ _,h=>h.elim
 | 0,.zero,h=>h.elim
 | 0,.loc _,h=>h.elim
 | 0,.jk _,h=>h.elim
 | _+1,.zero,h=>h.elim
 | _+1,.loc _,h=>h.elim
 | _+1,.jk _,h=>h.elim
theorem ck.par {s:ByteArray}{k b:Nat}(h:ck Stop s k b)(c:Bool):ck Stop (vp c s) (k+2) (b+2):=by
 unfold vp;split
 ·have h1:=(ck.sign (c:=40) R1 R1).app h λ _ _=>trivial;have h2:=h1.app (ck.sign (c:=41) R1 R1) λ r _=>Stop.cons _ R1;exact (h2.any Stop).mono yA yA
 ·exact h.mono yA yA
theorem ck.op {k:Nat}(hk:k<13):ck Any (⟨#[32]⟩++Fg.getD k ⟨#[]⟩++⟨#[32]⟩) 1 4:=by
 refine⟨?_,λ r n _ hl=>?_⟩
 ·revert k;decide
 have Wk:Lx (32::r) n:=Lx.sp R1 hl;have h1:∀ c:UInt8,c∈nq->Lx (32::c::32::r) (n+1):=λ c hc=>Lx.sp R1 (Lx.one hc xr Wk);have h2:∀ a b:UInt8,(a,b)∈s7->Lx (32::a::b::32::r) (n+1):=λ a b hc=>Lx.sp R1 (Lx.two hc Wk)
 match k,hk with
 | 0,_=>exact h1 42 R1
 | 1,_=>exact h1 47 R1
 | 2,_=>exact h1 37 R1
 | 3,_=>exact h1 43 R1
 | 4,_=>exact h1 45 R1
 | 5,_=>exact h1 60 R1
 | 6,_=>exact h2 60 61 R1
 | 7,_=>exact h1 62 R1
 | 8,_=>exact h2 62 61 R1
 | 9,_=>exact h2 61 61 R1
 | 10,_=>exact h2 33 61 R1
 | 11,_=>exact h2 38 38 R1
 | 12,_=>exact h2 124 124 R1
theorem vQ (d:Nat):1<=DP d:=by cases d<;>simp[DP]
theorem ck.ex {ns:List ByteArray}(hn:∀ s∈ns,dF s):∀ (d:Nat) (e:Ex),gu ns d e->ck Stop (jn e) (DP d) (24*DP d)
 | d,.num n,h=>by
  have h1:n<4611686018427387904:=by simpa [gu] using h
  have:=vQ d;exact (ck.dig (n:=n) yA).mono yA yA
 | d,.nm s,h=>by
  have:=vQ d;exact (ck.nm (hn s (by simpa [gu] using h))).mono yA yA
 | d+1,.un k e,h=>by
  simp only[gu] at h;have h1:=(ck.ex hn d e h.2).par (decide (e.st<5));have hh:=Hd.par (Hd.ex hn d e h.2) (decide (e.st<5));simp only[jn];have:=vQ d;split
  ·exact ((ck.sign (c:=45) R1 R1).app h1 λ _ _=>trivial).mono Xo Xo
  ·refine⟨?_,λ r n hr hl=>?_⟩
   ·rw[g8,length_append];have:=h1.1;simp only[DP];show 1+_<=_;omega
   ·rw[g8];have h2:=h1.2 r n hr hl;obtain⟨c,t,e1,e2⟩:=hh;rw[append_assoc];rw[e1] at h2 |-;exact (Lx.one (c:=33) R1 (by rintro x hx;simp at hx;exact hx ▸ e2) h2).mono Xo
 | d+1,.bin k a b,h=>by
  simp only[gu] at h;have ha:=(ck.ex hn d a h.2.1).par (decide (a.st<oC (5+k)));have hb:=(ck.ex hn d b h.2.2).par (decide (b.st<=oC (5+k)));have ho:=ck.op h.1;have h1:=(ha.app ho λ r _=>by
   rw[g8,g8];exact Stop.cons _ R1).app hb λ _ _=>trivial
  simp only[jn,ByteArray.append_assoc] at h1 |-;have:=vQ d;exact h1.mono Xo Xo
 | 0,.un _ _,h=>h.elim
 | 0,.bin _ _ _,h=>h.elim
 | 0,.zero,h=>h.elim
 | 0,.loc _,h=>h.elim
 | 0,.jk _,h=>h.elim
 | _+1,.zero,h=>h.elim
 | _+1,.loc _,h=>h.elim
 | _+1,.jk _,h=>h.elim
end Go.aJ
