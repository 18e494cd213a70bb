/- Within, Cut, Next, number. -/
import Derived.Test.YtlkmbdfhdknlgaaGreatV18
namespace Go.Proofs.YtlkmbdfhdknlgaaGreat
open Go.Can Go.aV List Tryz
theorem yq (x n:Int)(h0:0<n)(h1:n<=4611686018427387904):(IntKind.i64.wrap (x.tmod n+n)).tmod n=x % n/\n≠0:=by
 have Tg : -n<x.tmod n:=by
  have:=Int.lt_tmod_of_pos x h0;omega
 have Q0:x.tmod n<n:=Int.tmod_lt_of_pos x h0;have hw:=cw (x.tmod n+n) yA yA;refine⟨?_,by omega⟩;rw[hw,Int.tmod_eq_emod_of_nonneg yA,Int.add_emod_right,Int.tmod_def];simp
theorem oG (x n:Int)(h0:0<n)(h1:n<=4611686018427387904):af prog 32 [I x,I n] (I (x % n)):=by
 refine af.aC ag Tryz.func32 rfl GK (by simp[Tryz.ntmps32]) rfl λ C hC OR=>?_;rw[Tryz.ntmps32] at hC;obtain⟨ha,hn⟩:=yq x n h0 h1;apply aq;simp[hC];apply aq;simp[hC,hn,ha];apply T.ret;apply aa.here;simp[Tryz.results32]
theorem Nh (l:List Int)(n:Nat)(_hl:l.length<=9223372036854775807):af prog 64 [ints l,I n] (ints (l.take n)):=by
 refine af.aC ag Tryz.func64 rfl GK (by simp[Tryz.ntmps64]) rfl λ C hC OR=>?_;rw[Tryz.ntmps64] at hC;apply aq;simp[hC];apply aT;simp[hC,ints];refine T.bB rfl (λ h=>?_) (λ h=>?_)
 ·have hn:n<l.length:=by simpa using h
  have T6:n<=l.length:=by omega
  apply aq;simp[hC,hn,T6];apply T.ret;apply aa.here;simp[Tryz.results64]
 ·have hn:l.length<=n:=by simpa using h
  apply T.skip;simp;apply aq;simp[hC];apply T.ret;apply aa.here;simp[Tryz.results64];exact⟨(take_of_length_le (by simpa using hn)).symm,(Nat.min_eq_right hn).symm⟩
def aI (L:List Int)(i:Nat):Ob:=⟨126,0,[ints L,I i]⟩
def bw (l:List ByteArray):Ob:=⟨9,1,l.map .str⟩
theorem eP (l:List ByteArray):trees (l.map CV.str)=true:=by
 induction l with
 | nil=>rfl
 | cons a r ih=>simp only[map_cons,trees,ih,tree,Bool.and_self]
@[simp] theorem nmOb_frz (l:List ByteArray)(o:Nat)(cs:List CV)(n:Nat):(⟨(bw l).elem,(bw l).sz,(bw l).cells.map (cK o cs n)⟩:Ob)=bw l:=by simp[bw]
@[simp] theorem NU (ρ:Nat->Nat)(l:List ByteArray):bf ρ (bw l)=bw l:=by
 simp only[bf,bw,ae ρ _ (eP l)]
@[simp] theorem Me (ρ:Nat->Nat)(L:List Int)(i:Nat):bf ρ (aI L i)=aI L i:=by
 simp only[bf,aI,ae ρ [ints L,I i] rfl]
@[simp] theorem J1 (l:List ByteArray)(n:Nat):(bw l).cells.all (aU n)=true:=aj (eP l) n
@[simp] theorem nmOb_lts (l:List ByteArray)(n:Nat):aX n (bw l).cells=true:=by rw[aE];exact aj (eP l) n
@[simp] theorem KU (l:List ByteArray)(n:Nat):l.all (aU n∘CV.str)=true:=all_eq_true.2 λ _ _=>rfl
@[simp] theorem LJ (l:List ByteArray)(o q:Nat):l.all (nC o q∘CV.str)=true:=all_eq_true.2 λ _ _=>rfl
@[simp] theorem F2 (l:List ByteArray)(n o q:Nat):l.all (aU n∘dE o q∘CV.str)=true:=all_eq_true.2 λ _ _=>rfl
@[simp] theorem Mo (o q:Nat):dE o q∘CV.str=CV.str:=rfl
@[simp] theorem nmOb_ok1 (l:List ByteArray)(o q:Nat):(bw l).cells.all (nC o q)=true:=bC (eP l) o q
@[simp] theorem Fo (l:List ByteArray)(o q:Nat):(bw l).cells.map (dE o q)=(bw l).cells:=bm (eP l) o q
@[simp] theorem nmOb_eta (l:List ByteArray):(⟨(bw l).elem,(bw l).sz,(bw l).cells⟩:Ob)=bw l:=rfl
@[simp] theorem Oh (l:List ByteArray)(n o q:Nat):(bw l).cells.all (aU n∘dE o q)=true:=by rw[<- all_map,Fo];exact J1 l n
@[simp] theorem NO (L:List Int)(i o:Nat)(cs:List CV)(n:Nat):(⟨(aI L i).elem,(aI L i).sz,(aI L i).cells.map (cK o cs n)⟩:Ob)=aI L i:=by simp[aI,ints]
theorem cT (L:List Int)(i n:Nat)(_hi:i<=L.length)(hL:L.length<=1000)(hn:0<n)(QV:n<=4611686018427387904) :
  Body prog av 65 [.ax 0 0,I n] [(0,aI L i)] 1 (jk (I (cA L i n).1) [(0,aI L (cA L i n).2)] 1):=by
 refine Body.jb Tryz.func65 rfl GK (by simp[Tryz.ntmps65]) λ C hC OR=>?_;rw[Tryz.ntmps65] at hC;apply aq;simp[hC];refine T.seq (T.seq ?_);refine T.rx ag follows [0,1,2,3,4,5,6,7,8,9] [] GK ?_;simp[hC,aI,ints];refine T.bB rfl (λ h=>?_) (λ h=>?_)
 ·have OP:L.length<=i:=by simpa using h
  have hx:cA L i n=(0,i):=by
   unfold cA;rw[getElem?_eq_none OP]
  apply aq;simp[hC];apply T.ret;refine aa.trim [4] [0] 1 xr yA ⟨_,rfl,?_⟩;simp[jk,hx]
 ·have OP:i<L.length:=by simpa using h
  obtain⟨x,Uy⟩:∃ x,L[i]? = some x:=⟨L[i],getElem?_eq_getElem OP⟩;have hx:cA L i n=((x % (n:Int)).toNat,i+1):=by
   unfold cA;rw[Uy]
  have wi:=cw ((i:Int)+1) yA yA;have wj:((i:Int)+1)-1=(i:Int):=by omega
  have wk:=cw (i:Int) yA yA;have he:=Int.emod_nonneg x (show (n:Int)≠0 by omega);have het:(((x % (n:Int)).toNat:Nat):Int)=x % n:=Int.toNat_of_nonneg he;have hxd:(L.map bj).drop i=I x::(L.map bj).drop (i+1):=by
   rw[drop_eq_getElem_cons (by simpa using OP)];have:=(List.getElem?_eq_some_iff.1 Uy).2;simp[bj,this]
  apply T.skip;simp;apply aq;simp[hC,wi];apply T.seq;refine T.rx ag follows [0,1,2,3,4,5,6,7,8,9,10,11,12,13] [] GK ?_;simp[hC,wj,wk,OP,hxd];refine RX.call rfl xr rfl rfl rfl rfl (oG x n yA yA) ?_;simp;apply T.ret;refine aa.trim [4] [0] 1 xr yA ⟨_,rfl,?_⟩;simp[jk,hx,het]
theorem Fl (L:List Int)(i:Nat)(hi:i<=L.length)(hL:L.length<=1000) :
  Body prog av 189 [.ax 0 0] [(0,aI L i)] 1 (jk (I (wP L i).1) [(0,aI L (wP L i).2)] 1):=by
 refine Body.jb Tryz.func189 rfl GK (by simp[Tryz.ntmps189]) λ C hC OR=>?_;rw[Tryz.ntmps189] at hC;apply aq;simp[hC];apply aT;simp[hC];refine TL.di ag [0] 1 (cT L i 8 hi hL yA yA) OU rfl rfl rfl rfl xr Qe Qd rfl (TL.go' ag ?_);simp[hC];have Zx:=bu L 8 hi;refine T.bB rfl (λ h=>?_) (λ h=>?_)
 ·have h1:(cA L i 8).1=1:=by simp at h;omega
  apply aq;simp[hC];refine TL.di ag [0] 1 (cT L _ 4611686018427387904 Zx hL yA yA) OU rfl rfl rfl rfl xr Qe Qd rfl (TL.go' ag ?_);simp[hC];apply T.ret;refine aa.trim [2] [0] 1 S9 yA ⟨_,rfl,?_⟩;simp[jk,wP,h1]
 ·have h1:¬ (cA L i 8).1=1:=by simp at h;omega
  apply T.skip;simp;apply aq;simp[hC];refine TL.di ag [0] 1 (cT L _ 4 Zx hL yA yA) OU rfl rfl rfl rfl xr Qe Qd rfl (TL.go' ag ?_);simp[hC];apply T.ret;refine aa.trim [2] [0] 1 S9 yA ⟨_,rfl,?_⟩;simp[jk,wP,h1]
def Gb:List CV:=[.int .i64 0,.int .i64 0,.str ⟨#[]⟩,.ak]
theorem jq {ns:List ByteArray}{i:Nat}(h:i<ns.length):(ns.map CV.str).drop i=.str (ns.getD i eS)::(ns.map CV.str).drop (i+1):=by
 rw[drop_eq_getElem_cons Sa];simp[h]
theorem Ib (L:List Int)(ns:List ByteArray)(d i:Nat)(h:d=0\/(cA L i 10).1<2):qT L ns d i=qL L ns (cA L i 10).2:=by
 cases d with
 | zero=>rfl
 | succ d=>
  rw[qT,if_pos];rcases h with h | h
  ·cases h
  ·exact h
theorem aF:∀ a b:List CV,trees (a++b)=(trees a && trees b)
 | [],b=>by simp[trees]
 | x::r,b=>by simp[trees,Bool.and_assoc]
@[simp] theorem aJ (e:Ex):trees (a8 e)=true:=by cases e<;>rfl
theorem drop8 (a:Ex)(x y z w:CV):drop 8 (a8 a++[x,y,z,w])=[]:=drop_eq_nil_of_le (by simp[bA])
theorem qt (e:Ex):take 4 (a8 e)=a8 e:=take_of_length_le (by simp[bA])
theorem EL (a b:Ex):take 8 (a8 a++a8 b)=a8 a++a8 b:=take_of_length_le (by simp[bA])
theorem GZ (n:Nat)(e:Ex)(x:CV)(h:x∈a8 e):aU n x=true:=by
 rw[bV] at h;simp only[mem_cons,not_mem_nil,or_false] at h;rcases h with rfl | rfl | rfl | rfl<;>rfl
theorem gG (n:Nat)(e:Ex):(a8 e).all (aU n)=true:=all_eq_true.2 (GZ n e)
@[simp] theorem nz_exC (e:Ex):(a8 e).map nz=a8 e:=by cases e<;>rfl
@[simp] theorem frz_exC (o:Nat)(cs:List CV)(n:Nat)(e:Ex):(a8 e).map (cK o cs n)=a8 e:=by cases e<;>rfl
attribute [simp] qt EL bA
theorem uY (L:List Int)(hL:L.length<=1000)(ns:List ByteArray)(RN:ns.length<=1000):∀ (d i:Nat),d<=1000->i<=L.length ->
  Body prog av 159 [.ax 0 0,.bg 3 0 ns.length,I d] [(0,aI L i),(3,bw ns)] 4 (jk (.agg (a8 (qT L ns d i).1)) [(0,aI L (qT L ns d i).2),(3,bw ns)] 4):=by
 intro d
 induction d using Nat.strongRecOn with
 | _ d ih=>
 intro i hd hi;refine Body.jb Tryz.func159 rfl GK (by simp[Tryz.ntmps159]) λ C hC OR=>?_;rw[Tryz.ntmps159] at hC;apply aq;simp[hC];apply aq;simp[hC];refine TL.di ag [0] 1 (cT L i 10 hi hL yA yA) OU rfl rfl rfl rfl xr Qe Qd rfl (TL.go' ag ?_);simp[hC];have PH:=bu L 10 hi;have Um:=Ib L ns d i;generalize hk:cA L i 10=k at PH Um;apply eZ;refine T.cut (λ s=>s=⟨[(10,.bool (decide (d=0) || decide (k.1<2))),(7,I k.1),(6,.ax 4 0),(0,.ax 0 0),(1,.bg 3 0 ns.length),(2,I d)],[(0,aI L k.2),(3,bw ns),(4,⟨85,0,Gb⟩)],5⟩) ?_ ?_
 ·by_cases h0:d=0
  ·apply aG;simp[hC,h0];refine aa.trim [10,7,6,0,1,2] [0,3,4] 5 S9 yA ?_;simp[Gb]
  ·apply aG;simp[hC,h0];refine aa.trim [10,7,6,0,1,2] [0,3,4] 5 S9 yA ?_;simp[Gb]
 ·rintro s rfl;refine T.bB rfl (λ h=>?_) (λ h=>?_)
  ·have hl:d=0\/k.1<2:=by simpa using h
   rw[Um hl];clear Um ih
      /- the leaf: is there a name to be taken? -/
   refine T.seq (T.cut (λ s=>s=⟨[(24,.bool (decide (0<ns.length/\(cA L k.2 2).1=1))),(6,.ax 4 0),(0,.ax 0 0),(1,.bg 3 0 ns.length)],[(0,aI L (if 0<ns.length then (cA L k.2 2).2 else k.2)),(3,bw ns),(4,⟨85,0,Gb⟩)],5⟩) ?_ ?_)
   ·by_cases Za:0<ns.length
    ·apply aG;simp[hC,Za];refine TL.di ag [0] 1 (cT L k.2 2 PH hL yA yA) OU rfl rfl rfl rfl xr Qe Qd rfl (TL.go' ag ?_);simp[hC];refine aa.trim [24,6,0,1] [0,3,4] 5 (by simp[aI,Gb]) yA ?_;simp[Gb]
    ·apply aG;simp[hC,Za];refine aa.trim [24,6,0,1] [0,3,4] 5 (by simp[aI,Gb]) yA ?_;simp[Gb]
   ·rintro s rfl;have Qn:=bu L 2 PH;refine T.bB rfl (λ h=>?_) (λ h=>?_)
    ·have hh:0<ns.length/\(cA L k.2 2).1=1:=by simpa using h
     have OT:=dF L (cA L k.2 2).2 hh.1;have OS:=jq OT;apply aq;simp[hC,hh.1];refine TL.di ag [0] 1 (cT L _ ns.length Qn hL yA yA) OU rfl rfl rfl rfl xr Qe Qd rfl (TL.go' ag ?_);simp[hC,OT,OS,bw,Gb];apply T.ret;refine aa.le (Le.nz [] [4]) ?_;simp;refine aa.le (Le.cF (o:=4) rfl rfl) ?_;simp;refine aa.trim [6] [0,3] 4 S9 yA ⟨_,rfl,?_⟩;simp[jk,qL,hh.1,hh.2,a8,eS,OT]
    ·have hh:¬ (0<ns.length/\(cA L k.2 2).1=1):=by simpa using h
     have Ts:(if 0<ns.length then (cA L k.2 2).2 else k.2)<=L.length:=by
      split
      ·exact Qn
      ·exact PH
     apply T.skip;simp;apply aq;simp[hC];refine TL.di ag [0] 1 (Fl L _ Ts hL) OU rfl rfl rfl rfl xr Qe Qd rfl (TL.go' ag ?_);simp[hC,Gb];apply T.ret;refine aa.le (Le.nz [] [4]) ?_;simp;refine aa.le (Le.cF (o:=4) rfl rfl) ?_;simp;refine aa.trim [6] [0,3] 4 S9 yA ⟨_,rfl,?_⟩;simp[jk,qL,hh,a8,eS]
  ·have TT:¬ d=0/\¬ k.1<2:=by simpa using h
   obtain⟨e,rfl⟩:∃ e,d=e+1:=⟨d-1,by omega⟩;have Wx:((e+1:Nat):Int)-1=(e:Int):=by omega
   have we:=cw (e:Int) yA yA;have ihe:=ih e yA;apply aq;simp[hC];refine T.bB rfl (λ h=>?_) (λ h=>?_)
   ·have hk4:k.1<4:=by simpa using h
    have hx:qT L ns (e+1) i=(.un (k.1 % 2) (qT L ns e k.2).1,(qT L ns e k.2).2):=by
     rw[qT,hk,if_neg TT.2,if_pos hk4]
    have Vp:=oy L ns e PH;have wm:=cw (3+(k.1:Int) % 2) yA yA;have htm:(k.1:Int).tmod 2=(k.1:Int) % 2:=Int.tmod_eq_emod_of_nonneg yA;apply aq;simp[hC,we,htm,wm];refine TL.di ag [0,3] 4 (ihe k.2 yA PH) OU rfl rfl rfl rfl xr Qe Qd rfl (TL.go' ag ?_);simp[hC,Gb,bA,aS];apply T.ret;refine aa.le (Le.trim [6] [0,3,4,5] 6 Yk yA) ?_;simp;refine aa.le (Le.cF (o:=5) rfl (by simp only[aJ])) ?_;simp;refine aa.le (Le.cF (o:=4) rfl rfl) ?_;simp;refine aa.trim [6] [0,3] 4 S9 yA ⟨_,rfl,?_⟩;simp[jk,hx,a8,eS]
   ·have hk4:¬ k.1<4:=by simpa using h
    have hx:qT L ns (e+1) i=(.bin (cA L k.2 13).1 (qT L ns e (cA L k.2 13).2).1 (qT L ns e (qT L ns e (cA L k.2 13).2).2).1,(qT L ns e (qT L ns e (cA L k.2 13).2).2).2):=by
     rw[qT,hk,if_neg TT.2,if_neg hk4]
    have Vp:=bu L 13 PH;have Wu:=oy L ns e Vp;have wb:=cw (5+((cA L k.2 13).1:Int)) yA (by have:=dF L k.2 (show 0<13 by omega);omega);apply T.skip;simp;apply aq;simp[hC];refine TL.di ag [0] 1 (cT L k.2 13 PH hL yA yA) OU rfl rfl rfl rfl xr Qe Qd rfl (TL.go' ag ?_);simp[hC,wb,we];refine TL.di ag [0,3] 4 (ihe _ yA Vp) OU rfl rfl rfl rfl xr Qe Qd rfl (TL.go' ag ?_);simp[hC,we];refine TL.di ag [0,3] 4 (ihe _ yA Wu) OU rfl rfl rfl rfl xr Qe Qd rfl (TL.go' ag ?_);simp[hC,Gb,bA,aS,drop8];apply T.ret;refine aa.le (Le.trim [6] [0,3,4,5] 6 Yk yA) ?_;simp;refine aa.le (Le.cF (o:=5) rfl (by simp only[aF,aJ,Bool.and_self])) ?_;simp;refine aa.le (Le.cF (o:=4) rfl rfl) ?_;simp;refine aa.trim [6] [0,3] 4 S9 yA ⟨_,rfl,?_⟩;simp[jk,hx,a8,eS]
end Go.Proofs.YtlkmbdfhdknlgaaGreat
namespace Go.aV
open Go.Can List
def fJ (left:Nat):ByteArray:=⟨#[118]⟩++⟨#[UInt8.ofNat (97+left % 26),UInt8.ofNat (97+left / 26 % 26)]⟩
structure LR where
 out:List Sm
 vars:List ByteArray
 i:Nat
 left:Nat
structure Wr where
 L:List Int
 ar:Bool
 ms:List Mx
 fs:List (ByteArray×List Pm)
abbrev Rec:=List ByteArray->Nat->Nat->Nat->Nat->List Sm×Nat×Nat
def Bt (w:Wr)(rec:Rec)(ps:List Pm)(vars:List ByteArray)(i left:Nat):LR:=
 ⟨.dP false (jB w.L w.ar w.ms ps vars i).1::(rec vars 0 2 (jB w.L w.ar w.ms ps vars i).2 left).1++[.dP true (jB w.L w.ar w.ms ps vars i).1],vars,(rec vars 0 2 (jB w.L w.ar w.ms ps vars i).2 left).2.1,(rec vars 0 2 (jB w.L w.ar w.ms ps vars i).2 left).2.2⟩
def gY (w:Wr)(ps:List Pm)(vars:List ByteArray)(go:Bool)(i left:Nat):LR:=
 ⟨[.en go (w.fs.getD (cA w.L i w.fs.length).1 (eS,[])).1 (dB w.L w.ar w.ms ps vars (w.fs.getD (cA w.L i w.fs.length).1 (eS,[])).2 (cA w.L i w.fs.length).2).1],vars,(dB w.L w.ar w.ms ps vars (w.fs.getD (cA w.L i w.fs.length).1 (eS,[])).2 (cA w.L i w.fs.length).2).2,left⟩
def Oz (w:Wr)(rec:Rec)(vars:List ByteArray)(deep i left:Nat):LR:=
 let e:=dH w.L w.ar vars i
 let th:=rec vars (deep-1) 3 e.2 left
 let c:=cA w.L th.2.1 2
 if c.1=1 then
  let el:=rec vars (deep-1) 3 c.2 th.2.2
  ⟨[.lO e.1 th.1 el.1],vars,el.2.1,el.2.2⟩
 else ⟨[.lO e.1 th.1 []],vars,c.2,th.2.2⟩
def NJ (w:Wr)(rec:Rec)(vars:List ByteArray)(deep i left:Nat):LR:=
 let e:=dH w.L w.ar vars i
 let th:=rec vars (deep-1) 3 e.2 left
 ⟨[.dh e.1 th.1],vars,th.2.1,th.2.2⟩
def zK (w:Wr)(rec:Rec)(ps:List Pm)(vars:List ByteArray)(deep i0 left:Nat):LR:=
 let k:=(cA w.L i0 14).1
 let i:=(cA w.L i0 14).2
 if k<4 then ⟨[.dP false (jB w.L w.ar w.ms ps vars i).1],vars,(jB w.L w.ar w.ms ps vars i).2,left⟩
 else if k<7 then ⟨[.dP true (jB w.L w.ar w.ms ps vars i).1],vars,(jB w.L w.ar w.ms ps vars i).2,left⟩
 else if k=7 then ⟨[.ia (fJ left) (dH w.L w.ar vars i).1],vars++[fJ left],(dH w.L w.ar vars i).2,left⟩
 else if k=8/\0<vars.length then ⟨[.iX (vars.getD (cA w.L i vars.length).1 eS) (dH w.L w.ar vars (cA w.L i vars.length).2).1],vars,(dH w.L w.ar vars (cA w.L i vars.length).2).2,left⟩
 else if k=9 then gY w ps vars false i left
 else if k=10 then gY w ps vars true i left
 else if k=11/\0<deep then Oz w rec vars deep i left
 else if k=12/\0<deep then NJ w rec vars deep i left
 else if k=13/\(cA w.L i 3).1=1 then ⟨[.jJ],vars,(cA w.L i 3).2,left⟩
 else if k=13 then Bt w rec ps vars (cA w.L i 3).2 left
 else Bt w rec ps vars i left
def sZ (w:Wr)(rec:Rec)(ps:List Pm)(deep:Nat):Nat->List ByteArray->Nat->Nat->List Sm×Nat×Nat
 | 0,_,i,left=>([],i,left)
 | n+1,vars,i,left=>
  if left=0 then ([],i,left) else
  let s:=zK w rec ps vars deep i (left-1)
  let r:=sZ w rec ps deep n s.vars s.i s.left
  (s.out++r.1,r.2)
def nJ (w:Wr)(ps:List Pm):Nat->Rec
 | 0=>λ _ _ most i left=>([],(cA w.L i (most+1)).2,left)
 | f+1=>λ vars deep most i left=>sZ w (nJ w ps f) ps deep (cA w.L i (most+1)).1 vars (cA w.L i (most+1)).2 left
def wC (L:List Int)(rec:Rec):Prop:=∀ vars deep most i left,i<=L.length->(rec vars deep most i left).2.1<=L.length/\(rec vars deep most i left).1.length+2*(rec vars deep most i left).2.2<=2*left
structure IQ (L:List Int)(vars:List ByteArray)(left:Nat)(b:LR):Prop where
 i:b.i<=L.length
 n:b.out.length+2*b.left<=2*(left+1)
 v:b.vars.length+b.left<=vars.length+left+1
 l:b.left<=left
 p:0<b.out.length
theorem D9 {w:Wr}{rec:Rec}(h:wC w.L rec)(ps:List Pm)(vars:List ByteArray){i:Nat}(left:Nat)(hi:i<=w.L.length):IQ w.L vars left (Bt w rec ps vars i left):=by
 obtain⟨h1,h2⟩:=h vars 0 2 _ left (qD w.L w.ar w.ms ps vars hi);refine⟨h1,?_,?_,?_,?_⟩<;>simp only[Bt,length_append,length_cons,length_nil]<;>omega
theorem BK {w:Wr}(ps:List Pm)(vars:List ByteArray)(go:Bool){i:Nat}(left:Nat)(hi:i<=w.L.length):IQ w.L vars left (gY w ps vars go i left):=by
 refine⟨rq _ _ _ _ _ _ (bu _ _ hi),?_,?_,?_,?_⟩<;>simp only[gY,length_cons,length_nil]<;>omega
theorem LZ {w:Wr}{rec:Rec}(h:wC w.L rec)(vars:List ByteArray)(deep:Nat){i:Nat}(left:Nat)(hi:i<=w.L.length):IQ w.L vars left (NJ w rec vars deep i left):=by
 obtain⟨h1,h2⟩:=h vars (deep-1) 3 _ left (ku w.L w.ar vars hi);refine⟨h1,?_,?_,?_,?_⟩<;>simp only[NJ,length_cons,length_nil]<;>omega
theorem M0 {w:Wr}{rec:Rec}(h:wC w.L rec)(vars:List ByteArray)(deep:Nat){i:Nat}(left:Nat)(hi:i<=w.L.length):IQ w.L vars left (Oz w rec vars deep i left):=by
 obtain⟨h1,h2⟩:=h vars (deep-1) 3 _ left (ku w.L w.ar vars hi);obtain⟨h3,h4⟩:=h vars (deep-1) 3 (cA w.L (rec vars (deep-1) 3 (dH w.L w.ar vars i).2 left).2.1 2).2 (rec vars (deep-1) 3 (dH w.L w.ar vars i).2 left).2.2 (bu _ _ h1);unfold Oz;simp only;split
 ·refine⟨h3,?_,?_,?_,?_⟩<;>simp only[length_cons,length_nil]<;>omega
 ·refine⟨bu _ _ h1,?_,?_,?_,?_⟩<;>simp only[length_cons,length_nil]<;>omega
theorem GM {w:Wr}{rec:Rec}(h:wC w.L rec)(ps:List Pm)(vars:List ByteArray)(deep:Nat){i:Nat}(left:Nat)(hi:i<=w.L.length):IQ w.L vars left (zK w rec ps vars deep i left):=by
 have PH:=bu w.L 14 hi;unfold zK;simp only;split
 ·exact⟨qD _ _ _ _ _ PH,by simp<;>omega,by simp<;>omega,Nat.le_refl _,by simp⟩
 split
 ·exact⟨qD _ _ _ _ _ PH,by simp<;>omega,by simp<;>omega,Nat.le_refl _,by simp⟩
 split
 ·exact⟨ku _ _ _ PH,by simp<;>omega,by simp<;>omega,Nat.le_refl _,by simp⟩
 split
 ·exact⟨ku _ _ _ (bu _ _ PH),by simp<;>omega,by simp<;>omega,Nat.le_refl _,by simp⟩
 split
 ·exact BK ps vars false left PH
 split
 ·exact BK ps vars true left PH
 split
 ·exact M0 h vars deep left PH
 split
 ·exact LZ h vars deep left PH
 split
 ·exact⟨bu _ _ PH,by simp<;>omega,by simp<;>omega,Nat.le_refl _,by simp⟩
 split
 ·exact D9 h ps vars left (bu _ _ PH)
 ·exact D9 h ps vars left PH
theorem HC {w:Wr}{rec:Rec}(h:wC w.L rec)(ps:List Pm)(deep:Nat):∀ (n:Nat) (vars:List ByteArray) (i left:Nat),i<=w.L.length->(sZ w rec ps deep n vars i left).2.1<=w.L.length/\(sZ w rec ps deep n vars i left).1.length+2*(sZ w rec ps deep n vars i left).2.2<=2*left
 | 0,vars,i,left,hi=>⟨hi,by simp[sZ]⟩
 | n+1,vars,i,left,hi=>by
  rw[sZ];split
  ·exact⟨hi,by simp⟩
  ·have h1:=GM h ps vars deep (left-1) hi;obtain⟨h2,h3⟩:=HC h ps deep n (zK w rec ps vars deep i (left-1)).vars (zK w rec ps vars deep i (left-1)).i (zK w rec ps vars deep i (left-1)).left h1.i;refine⟨h2,?_⟩;have:=h1.n;simp only[length_append];omega
theorem uK (w:Wr)(ps:List Pm):∀ f:Nat,wC w.L (nJ w ps f)
 | 0=>λ vars deep most i left hi=>⟨bu _ _ hi,by simp[nJ]⟩
 | f+1=>λ vars deep most i left hi=>HC (uK w ps f) ps deep _ vars _ left (bu _ _ hi)
def eC (n:Nat):ByteArray:=⟨#[UInt8.ofNat n]⟩
def rH (L:List Int):Nat->Nat->Nat->List Mx×Nat
 | 0,_,i=>([],i)
 | n+1,j,i=>
  if (cA L i 5).1=1 then (⟨eC (97+j),true,0⟩ :: (rH L n (j+1) (cA L i 5).2).1,(rH L n (j+1) (cA L i 5).2).2)
  else if (cA L i 5).1=2 then (⟨eC (97+j),false,1+(cA L (cA L i 5).2 3).1⟩ :: (rH L n (j+1) (cA L (cA L i 5).2 3).2).1,(rH L n (j+1) (cA L (cA L i 5).2 3).2).2)
  else (⟨eC (97+j),false,0⟩ :: (rH L n (j+1) (cA L i 5).2).1,(rH L n (j+1) (cA L i 5).2).2)
def wS (L:List Int):Nat->Nat->Nat->List Gl×Nat
 | 0,_,i=>([],i)
 | n+1,j,i=>(⟨⟨#[103]⟩++eC (48+j),((cA L i 5).1:Int)-2⟩ :: (wS L n (j+1) (cA L i 5).2).1,(wS L n (j+1) (cA L i 5).2).2)
def DG (L:List Int):Nat->Nat->List Pm×Nat
 | 0,i=>([],i)
 | n+1,i=>(⟨⟨#[112]⟩++eC (48+(n+1)),decide (0<(cA L i 3).1)⟩ :: (DG L n (cA L i 3).2).1,(DG L n (cA L i 3).2).2)
def vN (L:List Int):Nat->Nat->Nat->List Fu×Nat
 | 0,_,i=>([],i)
 | n+1,j,i=>
  let p:=DG L (if j=0 then 0 else (cA L i 3).1) (cA L i 3).2
  (⟨if j=0 then ⟨#[109,97,105,110]⟩ else ⟨#[102]⟩++eC (48+j),p.1,[]⟩ :: (vN L n (j+1) p.2).1,(vN L n (j+1) p.2).2)
def jO (gs:List Gl)(ps:List Pm):List ByteArray:=gs.map (·.name)++ps.flatMap λ p=>if p.mutex=true then [] else [p.name]
def KO (w:Wr)(gs:List Gl):Nat->Nat->List Fu->Nat->Nat->List Fu
 | 0,_,fs,_,_=>fs
 | n+1,j,fs,i,left=>
  match fs[j]? with
  | none=>fs
  | some f=>
   let b:=nJ w f.params left (jO gs f.params) 2 6 i left
   KO w gs n (j+1) (fs.set j ⟨f.name,f.params,b.1⟩) b.2.1 b.2.2
def BX (l:List Int):Pg:=
 let L:=l.take 400
 let a:=cA L 0 3
 let nm:=cA L a.2 4
 let ms:=rH L (1+nm.1) 0 nm.2
 let ng:=cA L ms.2 3
 let gs:=wS L ng.1 0 ng.2
 let nf:=cA L gs.2 4
 let fs:=vN L (nf.1+1) 0 nf.2
 ⟨gs.1,ms.1,KO ⟨L,decide (a.1=1),ms.1,fs.1.map λ f=>(f.name,f.params)⟩ gs.1 (nf.1+1) 0 fs.1 fs.2 24⟩
def jc (c:UInt8):Bool:=c == 32 || c == 9 || c == 10 || c == 13
def isLet (c:UInt8):Bool:=(decide (97<=c.toNat) && decide (c.toNat<=122)) || (decide (65<=c.toNat) && decide (c.toNat<=90)) || decide (c.toNat=95)
def dw (c:UInt8):Bool:=decide (48<=c.toNat) && decide (c.toNat<=57)
def fM (c:UInt8):Bool:=isLet c || dw c
def r8:List (List UInt8):=[[118,97,114],[109,117,116,101,120],[114,109,117,116,101,120],[102,117,110,99],[108,111,99,107],[117,110,108,111,99,107],[103,111],[105,102],[101,108,115,101],[119,104,105,108,101],[114,101,116,117,114,110]]
def mB:List UInt8:=[40,41,123,125,91,93,44,59,61,43,45,42,47,37,60,62,33]
def rM:List (UInt8×UInt8):=[(60,61),(62,61),(61,61),(33,61),(38,38),(124,124)]
def lI (w:List UInt8):Nat:=w.foldl (λ n c=>10*n+(c.toNat-48)) 0
def uy:List UInt8->Nat
 | a::b::_=>if (a,b)∈rM then 2 else if a∈mB then 1 else 0
 | [a]=>if a∈mB then 1 else 0
 | []=>0
inductive Lx:List UInt8->Nat->Prop
 | nil (n:Nat):Lx [] n
 | sp {c:UInt8} {r:List UInt8} {n:Nat}:jc c=true->Lx r n->Lx (c::r) n
 | nm {c:UInt8} {r:List UInt8} {n:Nat}:isLet c=true->(((c::r).takeWhile fM).length<=16\/(c::r).takeWhile fM∈r8)->Lx ((c::r).dropWhile fM) n->Lx (c::r) (n+1)
 | num {c:UInt8} {r:List UInt8} {n:Nat}:dw c=true->lI ((c::r).takeWhile dw)<9223372036854775808->Lx ((c::r).dropWhile dw) n->Lx (c::r) (n+1)
 | sg {c:UInt8} {r:List UInt8} {n:Nat}:isLet c=false->dw c=false->jc c=false->(c=47->r.head?≠some 47)->0<uy (c::r)->Lx ((c::r).drop (uy (c::r))) n->Lx (c::r) (n+1)
theorem Lx.mono {r:List UInt8}{n m:Nat}(h:Lx r n)(hm:n<=m):Lx r m:=by
 induction h generalizing m with
 | nil=>exact .nil _
 | sp a _ ih=>exact .sp a (ih hm)
 | nm a b _ ih=>
  obtain⟨k,rfl⟩:∃ k,m=k+1:=⟨m-1,by omega⟩;exact .nm a b (ih yA)
 | num a b _ ih=>
  obtain⟨k,rfl⟩:∃ k,m=k+1:=⟨m-1,by omega⟩;exact .num a b (ih yA)
 | sg a b c d e _ ih=>
  obtain⟨k,rfl⟩:∃ k,m=k+1:=⟨m-1,by omega⟩;exact .sg a b c d e (ih yA)
def Stop (r:List UInt8):Prop:=∀ c,r.head? = some c->fM c=false/\c≠61/\c≠47
theorem j9 {p:UInt8->Bool}:∀ (w r:List UInt8),(w.all p=true)->(∀ c,r.head? = some c->p c=false)->(w++r).takeWhile p=w/\(w++r).dropWhile p=r
 | [],r,_,h=>by
  cases r with
  | nil=>exact⟨rfl,rfl⟩
  | cons c r=>
   have:=h c rfl;simp[this]
 | a::w,r,ha,h=>by
  simp only[all_cons,Bool.and_eq_true] at ha;obtain⟨h1,h2⟩:=j9 w r ha.2 h;constructor
  ·rw[cons_append,takeWhile_cons,if_pos ha.1,h1]
  ·rw[cons_append,dropWhile_cons,if_pos ha.1,h2]
def KW (s:List UInt8)(k:Nat):Prop:=∀ r n,Stop r->Lx r n->Lx (s++r) (n+k)
theorem KW.name {s:List UInt8}(h0:∃ c t,s=c::t/\isLet c=true)(h1:s.all fM=true)(h2:s.length<=16\/s∈r8):KW s 1:=by
 intro r n hr hl;obtain⟨c,t,rfl,hc⟩:=h0;obtain⟨e1,e2⟩:=j9 (c::t) r h1 λ x hx=>(hr x hx).1;rw[cons_append] at e1 e2 |-;exact Lx.nm hc (by rw[e1];exact h2) (by rw[e2];exact hl)
theorem KW.num {s:List UInt8}(h0:s≠[])(h1:s.all dw=true)(h2:lI s<9223372036854775808):KW s 1:=by
 intro r n hr hl
 cases s with
 | nil=>exact absurd rfl h0
 | cons c t=>
  have hd:∀ x,r.head? = some x->dw x=false:=λ x hx=>by
   have:=(hr x hx).1;simp only[fM,Bool.or_eq_false_iff] at this;exact this.2
  obtain⟨e1,e2⟩:=j9 (c::t) r h1 hd;simp only[all_cons,Bool.and_eq_true] at h1;rw[cons_append] at e1 e2 |-;exact Lx.num h1.1 (by rw[e1];exact h2) (by rw[e2];exact hl)
theorem Lx.one {c:UInt8}{r:List UInt8}{n:Nat}(hc:c∈mB)(hr:∀ x,r.head? = some x->x≠61/\x≠47)(hl:Lx r n):Lx (c::r) (n+1):=by
 have hx:(∀ b,(c,b)∈rM->b=61):=by
  intro b hb;simp only[mB,mem_cons,not_mem_nil,or_false] at hc;rcases hc with rfl | rfl | rfl | rfl | rfl | rfl | rfl | rfl | rfl | rfl | rfl | rfl | rfl | rfl | rfl | rfl | rfl<;>simp_all [rM]
 have hs:uy (c::r)=1:=by
  cases r with
  | nil=>simp[uy,hc]
  | cons b t=>
   have hb:(c,b)∉rM:=λ h=>(hr b rfl).1 (hx b h);simp[uy,hc,hb]
 have h3:isLet c=false/\dw c=false/\jc c=false:=by
  simp only[mB,mem_cons,not_mem_nil,or_false] at hc;rcases hc with rfl | rfl | rfl | rfl | rfl | rfl | rfl | rfl | rfl | rfl | rfl | rfl | rfl | rfl | rfl | rfl | rfl<;>decide
 refine Lx.sg h3.1 h3.2.1 h3.2.2 (λ _ h=>(hr 47 h).2 rfl) (by rw[hs];exact Nat.one_pos) ?_;rw[hs];exact hl
theorem Lx.yY {c:UInt8}{r:List UInt8}{n:Nat}(hc:c∈mB)(h:c≠60/\c≠62/\c≠61/\c≠33/\c≠47)(hl:Lx r n):Lx (c::r) (n+1):=by
 have hs:uy (c::r)=1:=by
  cases r with
  | nil=>simp[uy,hc]
  | cons b t=>
   have hb:(c,b)∉rM:=by
    simp only[mB,mem_cons,not_mem_nil,or_false] at hc;rcases hc with rfl | rfl | rfl | rfl | rfl | rfl | rfl | rfl | rfl | rfl | rfl | rfl | rfl | rfl | rfl | rfl | rfl<;>simp_all [rM]
   simp[uy,hc,hb]
 have h3:isLet c=false/\dw c=false/\jc c=false:=by
  simp only[mB,mem_cons,not_mem_nil,or_false] at hc;rcases hc with rfl | rfl | rfl | rfl | rfl | rfl | rfl | rfl | rfl | rfl | rfl | rfl | rfl | rfl | rfl | rfl | rfl<;>decide
 refine Lx.sg h3.1 h3.2.1 h3.2.2 (λ e=>absurd e h.2.2.2.2) (by rw[hs];exact Nat.one_pos) ?_;rw[hs];exact hl
theorem Lx.two {a b:UInt8}{r:List UInt8}{n:Nat}(hc:(a,b)∈rM)(hl:Lx r n):Lx (a::b::r) (n+1):=by
 have hs:uy (a::b::r)=2:=by simp[uy,hc]
 have h3:isLet a=false/\dw a=false/\jc a=false/\a≠47:=by
  simp only[rM,mem_cons,not_mem_nil,or_false,Prod.mk.injEq] at hc;rcases hc with ⟨rfl,_⟩ | ⟨rfl,_⟩ | ⟨rfl,_⟩ | ⟨rfl,_⟩ | ⟨rfl,_⟩ | ⟨rfl,_⟩<;>decide
 refine Lx.sg h3.1 h3.2.1 h3.2.2.1 (λ e=>absurd e h3.2.2.2) (by rw[hs];omega) ?_;rw[hs];exact hl
theorem Stop.cons {c:UInt8}(r:List UInt8)(h:fM c=false/\c≠61/\c≠47):Stop (c::r):=by
 intro x hx;simp only[head?_cons,Option.some.injEq] at hx;exact hx ▸ h
theorem Lx.inv {c:UInt8}{r:List UInt8}{n:Nat}(h:Lx (c::r) n)(hs:jc c=false):∃ m,n=m+1/\
  ((isLet c=true/\(((c::r).takeWhile fM).length<=16\/(c::r).takeWhile fM∈r8)/\Lx ((c::r).dropWhile fM) m)\/
   (isLet c=false/\dw c=true/\lI ((c::r).takeWhile dw)<9223372036854775808/\Lx ((c::r).dropWhile dw) m)\/
   (isLet c=false/\dw c=false/\(c=47->r.head?≠some 47)/\0<uy (c::r)/\Lx ((c::r).drop (uy (c::r))) m)):=by
 cases h with
 | sp a _=>rw[a] at hs;cases hs
 | nm a b d=>exact⟨_,rfl,.inl ⟨a,b,d⟩⟩
 | num a b d=>
  have hn:isLet c=false:=by
   simp only[dw,Bool.and_eq_true,decide_eq_true_eq] at a;simp only[isLet,Bool.or_eq_false_iff,Bool.and_eq_false_iff,decide_eq_false_iff_not];omega
  exact⟨_,rfl,.inr (.inl ⟨hn,a,b,d⟩)⟩
 | sg a b d e f g=>exact⟨_,rfl,.inr (.inr ⟨a,b,e,f,g⟩)⟩
def rF (l:List UInt8):Nat:=(l.takeWhile jc).length
theorem Lx.skip {r:List UInt8}{n:Nat}(h:Lx r n):Lx (r.drop (rF r)) n:=by
 induction h with
 | nil n=>exact .nil n
 | @sp c r n a b ih=>
  have:rF (c::r)=rF r+1:=by simp[rF,a]
  rw[this,drop_succ_cons];exact ih
 | @nm c r n a b d _=>
  have hs:jc c=false:=by
   simp only[isLet,Bool.or_eq_true,Bool.and_eq_true,decide_eq_true_eq] at a
   cases h:jc c with
   | false=>rfl
   | true=>
    simp only[jc,Bool.or_eq_true,beq_iff_eq] at h;rcases h with ((rfl | rfl) | rfl) | rfl<;>revert a<;>decide
  have:rF (c::r)=0:=by simp[rF,hs]
  rw[this];exact .nm a b d
 | @num c r n a b d _=>
  have hs:jc c=false:=by
   simp only[dw,Bool.and_eq_true,decide_eq_true_eq] at a
   cases h:jc c with
   | false=>rfl
   | true=>
    simp only[jc,Bool.or_eq_true,beq_iff_eq] at h;rcases h with ((rfl | rfl) | rfl) | rfl<;>revert a<;>decide
  have:rF (c::r)=0:=by simp[rF,hs]
  rw[this];exact .num a b d
 | @sg c r n a b d e f g _=>
  have:rF (c::r)=0:=by simp[rF,d]
  rw[this];exact .sg a b d e f g
theorem z9 {l:List UInt8}{c:UInt8}(h:(l.drop (rF l)).head? = some c):jc c=false:=by
 unfold rF at h
 induction l with
 | nil=>simp at h
 | cons a r ih=>
  cases ha:jc a with
  | true=>
   simp only[takeWhile_cons,ha,if_true,length_cons,drop_succ_cons] at h;exact ih h
  | false=>
   simp only[takeWhile_cons,ha] at h;simp at h;rw[<- h];exact ha
def bs (s:ByteArray):List UInt8:=s.data.toList
theorem gL (a b:ByteArray):bs (a++b)=bs a++bs b:=by simp[bs,ByteArray.data_append]
theorem bs_mk (l:List UInt8):bs ⟨l.toArray⟩=l:=by simp[bs]
def ky (n:Nat):ByteArray:=if n<10 then eC (48+n) else ky (n / 10)++eC (48+n % 10)
termination_by n
decreasing_by omega
def lu (n:Int):ByteArray:=if n<0 then ⟨#[45]⟩++ky (-n).toNat else ky n.toNat
def nS (op:Nat):Nat:=if op=17 then 0 else if op=16 then 1 else if 10<=op/\op<=15 then 2 else if op=8\/op=9 then 3 else if 5<=op/\op<=7 then 4 else if op=3\/op=4 then 5 else 6
def Ex.lY:Ex->Nat
 | .zero=>0
 | .num _=>1
 | .nm _=>2
 | .un k _=>3+k
 | .bin k _ _=>5+k
 | .loc _=>18
 | .iK _=>19
def Ex.st (e:Ex):Nat:=nS e.lY
def uh (b:Bool)(x:ByteArray):ByteArray:=if b=true then ⟨#[40]⟩++x++⟨#[41]⟩ else x
def Dg:List ByteArray:=[⟨#[42]⟩,⟨#[47]⟩,⟨#[37]⟩,⟨#[43]⟩,⟨#[45]⟩,⟨#[60]⟩,⟨#[60,61]⟩,⟨#[62]⟩,⟨#[62,61]⟩,⟨#[61,61]⟩,⟨#[33,61]⟩,⟨#[38,38]⟩,⟨#[124,124]⟩]
def ji:Ex->ByteArray
 | .num n=>ky n
 | .nm s=>s
 | .un k e=>(if k=0 then ⟨#[45]⟩ else ⟨#[33]⟩)++uh (decide (e.st<5)) (ji e)
 | .bin k a b=>uh (decide (a.st<nS (5+k))) (ji a)++⟨#[32]⟩++Dg.getD k ⟨#[]⟩++⟨#[32]⟩++uh (decide (b.st<=nS (5+k))) (ji b)
 | _=>⟨#[]⟩
def Cw (r:Rf):ByteArray:=match r.index with
 | none=>r.name
 | some e=>r.name++⟨#[91]⟩++ji e++⟨#[93]⟩
def OL:Ar->ByteArray
 | .vw r=>⟨#[109,117,116,101,120,32]⟩++Cw r
 | .exp e=>ji e
def wz:Bool->List Ar->ByteArray
 | _,[]=>⟨#[]⟩
 | first,a::r=>(if first=true then ⟨#[]⟩ else ⟨#[44,32]⟩)++OL a++wz false r
def uq (l:List Ar):ByteArray:=⟨#[40]⟩++wz true l++⟨#[41]⟩
def z0:ByteArray:=⟨#[118,97,114,32]⟩
def GC:ByteArray:=⟨#[32,61,32]⟩
def jo:ByteArray:=⟨#[59]⟩
def NL:ByteArray:=⟨#[103,111,32]⟩
def xg:ByteArray:=⟨#[108,111,99,107,32]⟩
def oM:ByteArray:=⟨#[117,110,108,111,99,107,32]⟩
def NK:ByteArray:=⟨#[105,102,32]⟩
def yz:ByteArray:=⟨#[119,104,105,108,101,32]⟩
def qw:ByteArray:=⟨#[32,123,10]⟩
def k9:ByteArray:=⟨#[125]⟩
def z5:ByteArray:=⟨#[32,101,108,115,101,32,123,10]⟩
def Jm:ByteArray:=⟨#[114,101,116,117,114,110,59]⟩
def tNl:ByteArray:=⟨#[10]⟩
def qu:ByteArray:=⟨#[9]⟩
mutual
def la (Lf:ByteArray):Sm->ByteArray
 | .ia s e=>z0++s++GC++ji e++jo
 | .iX s e=>s++GC++ji e++jo
 | .en g s l=>(if g=true then NL++s else s)++uq l++jo
 | .dP u r=>(if u=true then oM else xg)++Cw r++jo
 | .lO e th el=>NK++ji e++qw++jz (Lf++qu) th++Lf++k9++(if el.length=0 then ⟨#[]⟩ else z5++jz (Lf++qu) el++Lf++k9)
 | .dh e th=>yz++ji e++qw++jz (Lf++qu) th++Lf++k9
 | .jJ=>Jm
def jz (Lf:ByteArray):List Sm->ByteArray
 | []=>⟨#[]⟩
 | s::r=>Lf++la Lf s++tNl++jz Lf r
end
def Lq (g:Gl):ByteArray:=z0++g.name++(if g.init=0 then ⟨#[]⟩ else GC++lu g.init)++⟨#[59,10]⟩
def J2 (m:Mx):ByteArray:=(if m.re=true then ⟨#[114]⟩ else ⟨#[]⟩)++⟨#[109,117,116,101,120,32]⟩++m.name++(if m.size=0 then ⟨#[]⟩ else ⟨#[91]⟩++lu m.size++⟨#[93]⟩)++⟨#[59,10]⟩
def vf:Bool->List Pm->ByteArray
 | _,[]=>⟨#[]⟩
 | first,p::r=>(if first=true then ⟨#[]⟩ else ⟨#[44,32]⟩)++(if p.mutex=true then ⟨#[109,117,116,101,120,32]⟩ else ⟨#[]⟩)++p.name++vf false r
def Ga (f:Fu):ByteArray:=⟨#[102,117,110,99,32]⟩++f.name++⟨#[40]⟩++vf true f.params++⟨#[41,32,123,10]⟩++jz qu f.body++⟨#[125,10]⟩
def jY {α:Type}(f:α->ByteArray):List α->ByteArray
 | []=>⟨#[]⟩
 | a::r=>f a++jY f r
def Fc (p:Pg):ByteArray:=jY Lq p.gs++jY J2 p.ms++jY Ga p.fs
def dG (s:ByteArray):Prop:=(∃ c t,bs s=c::t/\isLet c=true)/\(bs s).all fM=true/\(bs s).length<=16
def cu (S:List UInt8->Prop)(s:ByteArray)(k b:Nat):Prop:=(bs s).length<=b/\∀ r n,S r->Lx r n->Lx (bs s++r) (n+k)
def Any (_:List UInt8):Prop:=True
theorem cu.app {S S':List UInt8->Prop}{s s':ByteArray}{k k' b b':Nat}(h:cu S s k b)(h':cu S' s' k' b')(hS:∀ r,S' r->S (bs s'++r)):cu S' (s++s') (k' + k) (b+b'):=by
 refine⟨by rw[gL,length_append];have:=h.1;have:=h'.1;omega,λ r n hr hl=>?_⟩;rw[gL,append_assoc,<- Nat.add_assoc];exact h.2 _ _ (hS r hr) (h'.2 r n hr hl)
theorem cu.mono {S:List UInt8->Prop}{s:ByteArray}{k k' b b':Nat}(h:cu S s k b)(hk:k<=k')(hb:b<=b'):cu S s k' b':=
 ⟨Nat.le_trans h.1 hb,λ r n hr hl=>(h.2 r n hr hl).mono yA⟩
theorem cu.any {s:ByteArray}{k b:Nat}(h:cu Any s k b)(S:List UInt8->Prop):cu S s k b:=⟨h.1,λ r n _ hl=>h.2 r n trivial hl⟩
theorem cu.nil (S:List UInt8->Prop):cu S ⟨#[]⟩ 0 0:=⟨Nat.le_refl _,λ _ _ _ hl=>hl⟩
theorem cu.nm {s:ByteArray}(h:dG s):cu Stop s 1 16:=⟨h.2.2,KW.name h.1 h.2.1 (.inl h.2.2)⟩
theorem cu.word {l:List UInt8}(h0:∃ c t,l=c::t/\isLet c=true)(h1:l.all fM=true)(h2:l.length<=16)(s:ByteArray)(hs:bs s=l++[32]):cu Any s 1 17:=by
 refine⟨by rw[hs];simp;omega,λ r n _ hl=>?_⟩;rw[hs,append_assoc];exact KW.name h0 h1 (.inl h2) _ _ (Stop.cons _ O3) (Lx.sp O3 hl)
theorem cu.sign {c:UInt8}(hc:c∈mB)(h:c≠60/\c≠62/\c≠61/\c≠33/\c≠47):cu Any ⟨#[c]⟩ 1 1:=⟨Nat.le_refl _,λ _ _ _ hl=>Lx.yY hc h hl⟩
theorem qY (n:Nat):bs (eC n)=[UInt8.ofNat n]:=rfl
theorem zo:∀ n:Nat,(bs (ky n)).all dw=true/\bs (ky n)≠[]/\lI (bs (ky n))=n/\∀ b,n<10 ^ (b+1)->(bs (ky n)).length<=b+1:=by
 intro n
 induction n using Nat.strongRecOn with
 | _ n ih=>
 have hd:∀ k,k<10->dw (UInt8.ofNat (48+k))=true/\(UInt8.ofNat (48+k)).toNat-48=k:=by decide
 rw[ky];split
 ·rename_i h;obtain⟨a,b⟩:=hd n h;refine⟨by rw[qY];simp only[all_cons,all_nil,a,Bool.and_self],by rw[qY];simp,by rw[qY];simp only[lI,foldl_cons,foldl_nil,b];omega,λ b hb=>by rw[qY];simp⟩
 ·rename_i h;obtain⟨a,b⟩:=hd (n % 10) yA;obtain⟨i1,i2,i3,i4⟩:=ih (n / 10) yA;rw[gL,qY];refine⟨by rw[all_append,i1];simp only[all_cons,all_nil,a,Bool.and_self],by simp,?_,λ b hb=>?_⟩
  ·unfold lI at i3 |-;rw[foldl_append,i3];simp only[foldl_cons,foldl_nil,b];omega
  ·cases b with
   | zero=>omega
   | succ b=>
    have:=i4 b (by rw[Nat.pow_succ] at hb;omega);simp;omega
theorem cu.dig {n:Nat}(h:n<9223372036854775808):cu Stop (ky n) 1 19:=by
 obtain⟨i1,i2,i3,i4⟩:=zo n;exact⟨i4 18 yA,KW.num i2 i1 (by rw[i3];exact h)⟩
def fV (ns:List ByteArray):Nat->Ex->Prop
 | _,.num n=>n<4611686018427387904
 | _,.nm s=>s∈ns
 | d+1,.un k e=>k<2/\fV ns d e
 | d+1,.bin k a b=>k<13/\fV ns d a/\fV ns d b
 | _,_=>False
def B3:Nat->Nat
 | 0=>1
 | d+1=>2*B3 d+5
def Hd (s:ByteArray):Prop:=∃ c t,bs s=c::t/\c≠61/\c≠47
theorem Hd.app {s:ByteArray}(h:Hd s)(t:ByteArray):Hd (s++t):=by
 obtain⟨c,u,h1,h2⟩:=h;exact⟨c,u++bs t,by rw[gL,h1,cons_append],h2⟩
theorem Hd.nm {s:ByteArray}(h:dG s):Hd s:=by
 obtain⟨⟨c,t,h1,h2⟩,_⟩:=h;refine⟨c,t,h1,?_,?_⟩<;>rintro rfl<;>revert h2<;>decide
theorem Hd.dig (n:Nat):Hd (ky n):=by
 obtain⟨i1,i2,_,_⟩:=zo n
 cases hb:bs (ky n) with
 | nil=>exact absurd hb i2
 | cons c t=>
  rw[hb] at i1;simp only[all_cons,Bool.and_eq_true] at i1;refine⟨c,t,hb,?_,?_⟩<;>rintro rfl<;>have:=i1.1<;>revert this<;>decide
theorem Hd.par {s:ByteArray}(h:Hd s)(b:Bool):Hd (uh b s):=by
 unfold uh;split
 ·exact Hd.app (Hd.app ⟨40,[],rfl,by decide,by decide⟩ _) _
 ·exact h
theorem Hd.ex {ns:List ByteArray}(hn:∀ s∈ns,dG s):∀ (d:Nat) (e:Ex),fV ns d e->Hd (ji e)
 | _,.num n,_=>Hd.dig n
 | _,.nm s,h=>Hd.nm (hn s (by simpa [fV] using h))
 | d+1,.un k e,h=>by
  simp only[ji];refine Hd.app ?_ _;split
  ·exact⟨45,[],rfl,by decide,by decide⟩
  ·exact⟨33,[],rfl,by decide,by decide⟩
 | d+1,.bin k a b,h=>by
  simp only[fV] at h;simp only[ji];exact Hd.app (Hd.app (Hd.app (Hd.app (Hd.par (Hd.ex hn d a h.2.1) _) _) _) _) _
 | 0,.un _ _,h=>h.elim
 | 0,.bin _ _ _,h=>h.elim
 | 0,.zero,h=>h.elim
 | 0,.loc _,h=>h.elim
 | 0,.iK _,h=>h.elim
 | _+1,.zero,h=>h.elim
 | _+1,.loc _,h=>h.elim
 | _+1,.iK _,h=>h.elim
theorem cu.par {s:ByteArray}{k b:Nat}(h:cu Stop s k b)(c:Bool):cu Stop (uh c s) (k+2) (b+2):=by
 unfold uh;split
 ·have h1:=(cu.sign (c:=40) O3 O3).app h λ _ _=>trivial;have h2:=h1.app (cu.sign (c:=41) O3 O3) λ r _=>Stop.cons _ O3;exact (h2.any Stop).mono yA yA
 ·exact h.mono yA yA
theorem cu.op {k:Nat}(hk:k<13):cu Any (⟨#[32]⟩++Dg.getD k ⟨#[]⟩++⟨#[32]⟩) 1 4:=by
 refine⟨?_,λ r n _ hl=>?_⟩
 ·revert k;decide
 have Tq:Lx (32::r) n:=Lx.sp O3 hl;have h1:∀ c:UInt8,c∈mB->Lx (32::c::32::r) (n+1):=λ c hc=>Lx.sp O3 (Lx.one hc xr Tq);have h2:∀ a b:UInt8,(a,b)∈rM->Lx (32::a::b::32::r) (n+1):=λ a b hc=>Lx.sp O3 (Lx.two hc Tq)
 match k,hk with
 | 0,_=>exact h1 42 O3
 | 1,_=>exact h1 47 O3
 | 2,_=>exact h1 37 O3
 | 3,_=>exact h1 43 O3
 | 4,_=>exact h1 45 O3
 | 5,_=>exact h1 60 O3
 | 6,_=>exact h2 60 61 O3
 | 7,_=>exact h1 62 O3
 | 8,_=>exact h2 62 61 O3
 | 9,_=>exact h2 61 61 O3
 | 10,_=>exact h2 33 61 O3
 | 11,_=>exact h2 38 38 O3
 | 12,_=>exact h2 124 124 O3
theorem uG (d:Nat):1<=B3 d:=by cases d<;>simp[B3]
theorem cu.ex {ns:List ByteArray}(hn:∀ s∈ns,dG s):∀ (d:Nat) (e:Ex),fV ns d e->cu Stop (ji e) (B3 d) (24*B3 d)
 | d,.num n,h=>by
  have h1:n<4611686018427387904:=by simpa [fV] using h
  have:=uG d;exact (cu.dig (n:=n) yA).mono yA yA
 | d,.nm s,h=>by
  have:=uG d;exact (cu.nm (hn s (by simpa [fV] using h))).mono yA yA
 | d+1,.un k e,h=>by
  simp only[fV] at h;have h1:=(cu.ex hn d e h.2).par (decide (e.st<5));have hh:=Hd.par (Hd.ex hn d e h.2) (decide (e.st<5));simp only[ji];have:=uG d;split
  ·exact ((cu.sign (c:=45) O3 O3).app h1 λ _ _=>trivial).mono Ut Ut
  ·refine⟨?_,λ r n hr hl=>?_⟩
   ·rw[gL,length_append];have:=h1.1;simp only[B3];show 1+_<=_;omega
   ·rw[gL];have h2:=h1.2 r n hr hl;obtain⟨c,t,e1,e2⟩:=hh;rw[append_assoc];rw[e1] at h2 |-;exact (Lx.one (c:=33) O3 (by rintro x hx;simp at hx;exact hx ▸ e2) h2).mono Ut
 | d+1,.bin k a b,h=>by
  simp only[fV] at h;have ha:=(cu.ex hn d a h.2.1).par (decide (a.st<nS (5+k)));have hb:=(cu.ex hn d b h.2.2).par (decide (b.st<=nS (5+k)));have ho:=cu.op h.1;have h1:=(ha.app ho λ r _=>by
   rw[gL,gL];exact Stop.cons _ O3).app hb λ _ _=>trivial
  simp only[ji,ByteArray.append_assoc] at h1 |-;have:=uG d;exact h1.mono Ut Ut
 | 0,.un _ _,h=>h.elim
 | 0,.bin _ _ _,h=>h.elim
 | 0,.zero,h=>h.elim
 | 0,.loc _,h=>h.elim
 | 0,.iK _,h=>h.elim
 | _+1,.zero,h=>h.elim
 | _+1,.loc _,h=>h.elim
 | _+1,.iK _,h=>h.elim
end Go.aV
