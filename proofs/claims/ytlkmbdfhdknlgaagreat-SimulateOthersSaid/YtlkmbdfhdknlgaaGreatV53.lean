/- The sanity check of the la -/
import Derived.Test.YtlkmbdfhdknlgaaGreatV52
import Derived.Test.YtlkmbdfhdknlgaaGreatV51
import Derived.Test.YtlkmbdfhdknlgaaGreatRows
import Derived.Deep.Matrix
import Derived.Deep.Fields
set_option maxRecDepth 1000000
namespace Go.Proofs.YtlkmbdfhdknlgaaGreat
open Go.Can Go.aV List Go.Proofs.Tryz
def sH:Un:=⟨[],[⟨⟨#[97]⟩,false,0⟩],[⟨⟨#[109,97,105,110]⟩,0,0,0,[.call false 1 [] [⟨false,0,none⟩],.ret]⟩,⟨⟨#[102]⟩,0,1,0,[.lock false ⟨true,0,none⟩,.lock false ⟨true,0,none⟩,.ret]⟩],0⟩
theorem BM:jx sH:=by
 refine⟨by decide,by decide,by decide,(λ g hg=>by cases hg),?_,rfl,?_,?_,?_⟩
 .intro m hm;simp only[sH,mem_cons,not_mem_nil,or_false] at hm;subst hm;simp
 .intro q hq;simp only[sH,getElem?_cons_zero,Option.some.injEq] at hq;subst hq;simp
 .intro q hq;simp only[sH,mem_cons,not_mem_nil,or_false] at hq;rcases hq with rfl | rfl<;>simp
 .intro q hq;simp only[sH,mem_cons,not_mem_nil,or_false] at hq;rcases hq with rfl | rfl
  .refine⟨⟨[.call false 1 [] [⟨false,0,none⟩]],rfl⟩,λ i hi=>?_⟩;simp only[mem_cons,not_mem_nil,or_false] at hi;rcases hi with rfl | rfl
   .exact⟨rfl,(λ e he=>by cases he),λ p hp=>by rw[mem_singleton.1 hp];exact .inr ⟨rfl,_,rfl,.inl ⟨rfl,rfl⟩⟩⟩
   .trivial
  .refine⟨⟨[.lock false ⟨true,0,none⟩,.lock false ⟨true,0,none⟩],rfl⟩,λ i hi=>?_⟩;simp only[mem_cons,not_mem_nil,or_false] at hi;rcases hi with rfl | rfl | rfl
   .exact .inl ⟨rfl,by decide,rfl⟩
   .exact .inl ⟨rfl,by decide,rfl⟩
   .trivial
theorem Nw:af prog 27 Cb (.bY [cb sH,I 0,I 0,I 0]):=by
 have h:=LV.nq;have e:nq Gi=.bY [cb sH,I 0,I 0,I 0]:=by rfl
 rwa [e] at h
def LG:Sy:=nZ sH [0,0] (iJ sH)
theorem LF:nK sH 2 LG:=Cs BM [0,0] (vt BM)
theorem as_pr:gz sH LG (0:Int) 0=some (1,[(0,1),(1,1)]):=by kernel_rfl
theorem as_ev:Ku sH LG (0:Int)=(3,0):=by kernel_rfl
theorem Kv {C:Cx}{s:St}{o:Oper}{x y:Operand}{q:TypeId}{p:Nat×Nat}(hd:bl C.nt o.dst=true)(ho:o.op=.binOp .eql 54 x y q)(hx:ev s x=some (.agg (nk p)))(hy:ev s y=some (.agg (nk p)))(h1:p.1<=1000000)(h2:p.2<=1000000):qh prog C o s (s.put o.dst (.bool true)):=by
 have hc:ju (.agg (nk p))=some (E7 p):=rfl;have hk:n7 2 (E7 p)=true:=by
  simp[n7,E7,wI,zM];omega
 have hv:wJ (E7 p) (E7 p)=true:=by simp[E7,wJ,ub,yu]
 refine vS ptEI hd ?_;simp only[Bm,ho,hx,hy,hc,M8,if_true,hk,and_self,hv]
noncomputable def asR:CV:=(pT (Gj []) (Go.Can.aG prog (Gj []) 300) 47 [cb sH,ints [0,0]]).getD (I 0)
theorem Xv:af prog 47 [cb sH,ints [0,0]] (.bY [bp LG,I 2]):=by
 have h:af prog 47 [cb sH,ints [0,0]] asR:=ep (I:=Gj []) (LW (by simp)) 300 (by kernel_rfl);have h:=h.nq;have e:nq asR=.bY [bp LG,I 2]:=by kernel_rfl
 rwa [e] at h
theorem as_ok:af prog 15 [] (.bool true):=by
 obtain⟨ga,gb,hg1,QN,tga,tgb⟩:∃ ga gb:List CV,Gh=.bY [.agg [.ak,.au ga 1,.au gb 2],I 72,I 0]/\Cb=[.agg [.ak,.au ga 1,.au gb 2]]/\trees ga=true/\trees gb=true:=⟨_,_,rfl,rfl,rfl,rfl⟩;have PY:=LU;have Ul:=Nw;rw[hg1] at PY;rw[QN] at Ul;have tpg:trees [.agg [.ak,.au ga 1,.au gb 2]]=true:=by simp only[trees,tree,Bool.and_self]
 have O2:=xw sH BM;have W0:=Xv;have Tn:=n8 BM (by omega) LF 0 0 (by decide);have Pv:=Fe BM (by omega) LF 0;rw[as_pr] at Tn;rw[as_ev] at Pv;have PR:=bt sH;have Ug:=ah cP (cc sH).is;have Qy:=jn (cc sH).calls;have Vb:=aM (cc sH).roots;have WN:trees [cb sH]=true:=by simp only[trees,tree,cb,PR,Bool.and_self]
 have Wg:trees [cb sH,ints [0,0]]=true:=by simp only[trees,tree,cb,PR,bD,Bool.and_self]
 have Wf:trees [cb sH,oZ (cc sH),bp LG,I 0,I 0]=true:=by
  simp only[trees,tree,cb,PR,oZ,oY,aN,bp,dK,ints,Bool.and_self]
 have ta4:trees [cb sH,oZ (cc sH),bp LG,I 0]=true:=by
  simp only[trees,tree,cb,PR,oZ,oY,aN,bp,dK,ints,Bool.and_self]
 simp only[Lu,nH] at Tn;generalize sH=u at *;generalize LG=y at *;simp only[cb,eD,oZ,oY,bp,dK,ints,aN] at Ul O2 W0 Tn Pv WN Wg Wf ta4;refine af.aC ag Tryz.func15 rfl (by kernel_rfl) (by simp[Tryz.ntmps15]) rfl λ C hC OR=>?_;rw[Tryz.ntmps15] at hC;refine T.seq (T.go' ag ?_);simp[hC];refine T.seq (T.region (TL.some ag 1 ?_));simp[hC];refine l9 rfl (DX ag (by simp[hC]) rfl rfl (by omega) rfl rfl rfl rfl) ?_;simp[H8];refine TL.call (by simp[hC]) rfl rfl (bR.of rfl rfl PY) (TL.go' ag ?_);simp[hC];refine T.le (Le.trim [0,1] [1] 2 (by simp[-all_eq_true  ]) (by omega)) ?_;simp;refine T.seq (T.go' ag ?_);simp[hC];refine TL.call (by simp[hC]) rfl rfl (bR.of rfl tpg Ul) (TL.go' ag ?_);simp[hC];refine T.seq (T.go' ag ?_);simp[hC];refine TL.call (by simp[hC]) rfl rfl (bR.of rfl WN O2) (TL.go' ag ?_);simp[hC];refine T.seq (T.region (TL.some ag 2 ?_));simp[hC,aS];refine TL.le (Le.cF (o:=4) rfl rfl) ?_;simp;refine TL.call (by simp[hC]) rfl rfl (bR.of rfl Wg W0) (TL.go' ag ?_);simp[hC];refine T.seq (T.go' ag ?_);simp[hC];refine TL.call (by simp[hC]) rfl rfl (bR.of rfl Wf Tn) (TL.go' ag ?_);simp[hC,nk];refine T.seq (T.go' ag ?_);simp[hC];refine TL.call (by simp[hC]) rfl rfl (bR.of rfl ta4 Pv) (TL.go' ag ?_);simp[hC];refine T.seq (T.region (TL.some ag 18 ?_));simp[hC];refine l9 rfl (Kv (p:=(1,1)) (by simp[hC]) rfl (by simp[nk]) (by simp[nk]) (by simp) (by simp)) (TL.go' ag ?_);simp[hC];refine T.ret ?_;refine aa.here ?_;simp[Tryz.results15]
end Go.Proofs.YtlkmbdfhdknlgaaGreat
namespace Go.aV
open Go.Can List
theorem Nv {L x e:Nat}(hx:x<2 ^ (L+1))(h:x.testBit e=true):e<=L:=by
 by_cases h2:e<=L
 .exact h2
 .have h3:x<2 ^ e:=Nat.lt_of_lt_of_le hx (Nat.pow_le_pow_right yA yA);rw[Nat.testBit_lt_two_pow h3] at h;cases h
def IE (r:List Nat)(d e:Nat):Bool:=(r.getD d 0).testBit e
def ID (t:List (List Nat))(p d e:Nat):Bool:=IE (t.getD p []) d e
structure WfR (L:Nat)(r:List Nat):Prop where
 len:r.length=L+1
 lt:∀ s∈r,s<2 ^ (L+1)
theorem KN {L:Nat}{r:List Nat}(h:WfR L r){d e:Nat}(hb:IE r d e=true):d<=L/\e<=L:=by
 unfold IE at hb;rw[getD_eq_getElem?_getD] at hb
 cases hx:r[d]? with
 | none=>rw[hx] at hb;simp at hb
 | some s=>
  rw[hx] at hb;have h1:=(List.getElem?_eq_some_iff.1 hx).1;have h2:=h.len;exact⟨by omega,Nv (h.lt s (mem_of_getElem? hx)) hb⟩
def apF:List Nat->Nat->Nat->Nat
 | [],_,_=>0
 | s::r,x,d=>(if x.testBit d=true then s else 0) ||| apF r x (d+1)
def apR (r:List Nat)(x:Nat):Nat:=apF r x 0
def coR (a b:List Nat):List Nat:=a.map (apR b)
def unR (a b:List Nat):List Nat:=zipWith (· ||| ·) a b
def inR (a b:List Nat):Bool:=(zipWith (λ x y=>decide (x ||| y=y)) a b).all id
def shF (L:Nat)(c:Int):List Nat:=(range (L+1)).map λ d:Nat=>if 0<=(d:Int)+c/\(d:Int)+c<=L then 2 ^ ((d:Int)+c).toNat else 0
def g8 (x:Is)(m:Nat):In->Int
 | .lock un p=>if lC x p=m then (if un=true then -1 else 1) else 0
 | _=>0
def nxI (z:In)(pc:Nat):List Nat:=match z with
 | .ret=>[]
 | .jump g=>[g]
 | .branch g _=>if g=pc+1 then [g] else [min g (pc+1),max g (pc+1)]
 | _=>[pc+1]
def wg:In->Bool
 | .call g _ _ _=>!g
 | _=>false
def CW (c:Cl)(i pc:Nat):Nat:=((c.calls.getD i []).getD pc (-1)).toNat
section
variable (u:Un)(c:Cl)(m L:Nat)
inductive Ri (S:Nat->Nat->Nat->Prop)(i:Nat):Nat->Nat->Nat->Prop
 | base {d:Nat} (h:d<=L):Ri S i 0 d d
 | step {pc d e e' q:Nat} {x:Is} {z:In} (h:Ri S i pc d e) (hx:c.is[i]? = some x) (hz:(bN u x)[pc]? = some z) (hc:wg z=false) (he:(e':Int)=e+g8 x m z) (hl:e'<=L) (hq:q∈nxI z pc):Ri S i q d e'
 | call {pc d e e':Nat} {x:Is} {z:In} (h:Ri S i pc d e) (hx:c.is[i]? = some x) (hz:(bN u x)[pc]? = some z) (hc:wg z=true) (hs:S (CW c i pc) e e') (hl:e'<=L):Ri S i (pc+1) d e'
def ExP (S:Nat->Nat->Nat->Prop)(i d e:Nat):Prop:=∃ (pc:Nat) (x:Is),c.is[i]? = some x/\(bN u x)[pc]? = some .ret/\Ri u c m L S i pc d e
end
section
variable {u:Un}{c:Cl}{m L:Nat}
theorem Ri.mono {S S':Nat->Nat->Nat->Prop}(hS:∀ i d e,S i d e->S' i d e){i pc d e:Nat}(h:Ri u c m L S i pc d e):Ri u c m L S' i pc d e:=by
 induction h with
 | base h=>exact .base h
 | step _ hx hz hc he hl hq ih=>exact .step ih hx hz hc he hl hq
 | call _ hx hz hc hs hl ih=>exact .call ih hx hz hc (hS _ _ _ hs) hl
theorem ExP.mono {S S':Nat->Nat->Nat->Prop}(hS:∀ i d e,S i d e->S' i d e){i d e:Nat}:ExP u c m L S i d e->ExP u c m L S' i d e:=λ⟨pc,x,h1,h2,h3⟩=>⟨pc,x,h1,h2,h3.mono hS⟩
end
structure Ny (L n:Nat)(t:List (List Nat)):Prop where
 len:t.length=n
 row:∀ r∈t,WfR L r
theorem FY {t:List (List Nat)}{p:Nat}{r:List Nat}(h:t[p]? = some r)(d e:Nat):ID t p d e=IE r d e:=by
 simp[ID,getD_eq_getElem?_getD,h]
theorem FZ {t:List (List Nat)}{p:Nat}(h:t.length<=p)(d e:Nat):ID t p d e=false:=by
 simp[ID,getD_eq_getElem?_getD,getElem?_eq_none h,IE]
theorem Ny.get {L n:Nat}{t:List (List Nat)}(h:Ny L n t){p:Nat}(hp:p<n):∃ r,t[p]? = some r/\WfR L r:=by
 have:=h.len;refine⟨_,getElem?_eq_getElem yA,h.row _ (getElem_mem _)⟩
theorem Ny.lt {L n:Nat}{t:List (List Nat)}(h:Ny L n t){p d e:Nat}(hb:ID t p d e=true):p<n/\d<=L/\e<=L:=by
 by_cases hp:p<n
 .obtain⟨r,hr,hw⟩:=h.get hp;rw[FY hr] at hb;exact⟨hp,KN hw hb⟩
 .rw[FZ (by have:=h.len;omega)] at hb;cases hb
theorem Ny.set {L n:Nat}{t:List (List Nat)}(h:Ny L n t){p:Nat}{r:List Nat}(hr:WfR L r):Ny L n (t.set p r):=⟨by rw[length_set];exact h.len,λ x hx=>by
 rcases mem_or_eq_of_mem_set hx with hx | rfl
 .exact h.row x hx
 .exact hr⟩
def stpR (c:Cl)(L m:Nat)(sm:List (List Nat))(i:Nat)(x:Is)(z:In)(pc:Nat):List Nat:=if wg z=true then sm.getD (CW c i pc) [] else shF L (g8 x m z)
def swA (a:List Nat):List Nat->List (List Nat)×Bool->List (List Nat)×Bool
 | [],s=>s
 | q::r,s=>swA a r (if inR a (s.1.getD q [])=true then s else (s.1.set q (unR (s.1.getD q []) a),true))
def qy (u:Un)(c:Cl)(L m i:Nat)(x:Is)(sm t0:List (List Nat)):Nat->List (List Nat)×Bool
 | 0=>(t0,false)
 | pc+1=>match (bN u x)[pc]? with
  | none=>qy u c L m i x sm t0 pc
  | some z=>swA (coR ((qy u c L m i x sm t0 pc).1.getD pc []) (stpR c L m sm i x z pc)) (nxI z pc) (qy u c L m i x sm t0 pc)
section
variable (u:Un)(c:Cl)(m L:Nat)
structure EnH:Prop where
 L8:L<=8
 kal:∀ i x pc z,c.is[i]? = some x->(bN u x)[pc]? = some z->wg z=true->CW c i pc<c.is.length
 root:∀ r∈c.roots,r<c.is.length
end
theorem MQ {u:Un}(hu:jx u){i:Nat}{x:Is}(hx:(cc u).is[i]? = some x){pc:Nat}{z:In}(hz:(bN u x)[pc]? = some z){y:Is}(hy:jZ x z=some y):((cc u).calls.getD i []).getD pc (-1)=(fc (cc u).is y:Int)/\y∈(cc u).is:=by
 have ci:=uI hu;have hi:=(List.getElem?_eq_some_iff.1 hx).1;have h1:=ci.row i x hi hx;refine⟨?_,ci.mem i x hi hx z (mem_of_getElem? hz) y hy⟩;have hg:(cc u).calls.getD i []=yO (cc u).is x (bN u x):=by
  rw[getD_eq_getElem?_getD,h1];rfl
 rw[hg,yO,getD_eq_getElem?_getD,getElem?_map,hz];simp only[Option.map_some,Option.getD_some,hy]
theorem FX {x:Is}{z:In}(h:wg z=true):∃ y,jZ x z=some y:=by
 cases z with
 | call g t l ps=>exact⟨_,rfl⟩
 | _=>simp[wg] at h
theorem Kd {u:Un}(hu:jx u){i:Nat}{x:Is}(hx:(cc u).is[i]? = some x){pc:Nat}{z:In}(hz:(bN u x)[pc]? = some z)(hc:wg z=true):CW (cc u) i pc<(cc u).is.length/\((cc u).calls.getD i []).getD pc (-1)=(CW (cc u) i pc:Int):=by
 obtain⟨y,hy⟩:=FX (x:=x) hc;obtain⟨h1,h2⟩:=MQ hu hx hz hy;have h3:CW (cc u) i pc=fc (cc u).is y:=by
  rw[CW,h1];simp
 rw[h3];exact⟨uE h2,h1⟩
theorem Jh {u:Un}(hu:jx u){L:Nat}(h8:L<=8):EnH u (cc u) L:=by
 refine⟨h8,λ i x pc z hx hz hc=>(Kd hu hx hz hc).1,λ r hr=>?_⟩;have ci:=uI hu;rcases (ci.root r).1 hr with rfl | ⟨j,x,hj,hx,z,hz,_,y,hy,rfl⟩
 .exact ci.pos
 .exact uE (ci.mem j x hj hx z hz y hy)
end Go.aV
namespace Go.Proofs.YtlkmbdfhdknlgaaGreat
open Go.Can Go.aV List
theorem Bp (x:Int)(n:Nat)(h:0<n):∃ i:Nat,x % (n:Int)=i/\i<n:=by
 have h1:=Int.emod_nonneg x (show (n:Int)≠0 by omega);have h2:=Int.emod_lt_of_pos x (show (0:Int)<n by omega);exact⟨(x % n).toNat,by omega,by omega⟩
theorem An {u:Un}(hu:jx u){k:Nat}(hk:k<=1000){s:Sy}(hs:nK u k s){t:Int}{m:Nat}{d:Nat}{l:List (Nat×Nat)}(h:gz u s t m=some (d,l)):l.length<=1000000/\∀ p∈l,p.1<=1000000/\p.2<=1000000:=by
 obtain⟨_,_,_,h4,h5⟩:=hs.bounds hu hk;unfold gz at h;split at h
 .cases h
 .split at h
  .cases h
  .rename_i fs Qq;split at h
   .cases h
   .simp only[Option.some.injEq,Prod.mk.injEq] at h;obtain⟨_,rfl⟩:=h;have hm:=mem_of_getElem? Qq;refine⟨by rw[length_map];exact h4 _ hm,λ p hp=>?_⟩;rw[mem_map] at hp;obtain⟨f,hf,rfl⟩:=hp;have h6:=uE (hs.fr _ hm f hf).ic;have h7:=(zu hu).1;have h8:=(h5 _ hm f hf).2;exact⟨by simp only[BW];omega,h8⟩
theorem xy {u:Un}{s:Sy}{j m:Nat}(hj:j<s.ts.length)(hm:m<u.ms.length):∃ d l,gz u s j m=some (d,l):=by
 simp[gz,getElem?_eq_getElem hj,getElem?_eq_getElem hm]
end Go.Proofs.YtlkmbdfhdknlgaaGreat
namespace Go.aV
open Go.Can
theorem Ey (l:List Nat)(n:Nat):(g9 l n).length<=l.length+1:=by
 unfold g9;split
 .omega
 .simp;omega
theorem Cm (x:Is):∀ (c:List In) (l:List Is) (r:List Nat),(g6 x c l r).2.2.length<=r.length+c.length
 | [],_,_=>by simp[g6]
 | i::c,l,r=>by
  cases h:jZ x i with
  | none=>
   have:=Cm x c l r;simp only[g6,h,List.length_cons];omega
  | some y=>
   have:=Cm x c (fh l y) (if sq i=true then g9 r (fc (fh l y) y) else r);have h2:(if sq i=true then g9 r (fc (fh l y) y) else r).length<=r.length+1:=by
    split
    .exact Ey _ _
    .omega
   simp only[g6,h,List.length_cons];omega
theorem Eh {u:Un}(hu:jx u):∀ (f i:Nat) (l:List Is) (cs:List (List Int)) (r:List Nat),(mT u f i l cs r).roots.length<=r.length+145*f
 | 0,_,_,_,_=>by simp[mT]
 | f+1,i,l,cs,r=>by
  simp only[mT];split
  .simp
  .rename_i x _;have h1:=Eh hu f (i+1) (g6 x (bN u x) l r).1 (cs++[(g6 x (bN u x) l r).2.1]) (g6 x (bN u x) l r).2.2;have h2:=Cm x (bN u x) l r;have h3:=BE hu x;omega
theorem KE {u:Un}(hu:jx u):(cc u).roots.length<=14501:=Eh hu 100 0 _ _ _
end Go.aV
namespace Go.Proofs.YtlkmbdfhdknlgaaGreat
open Go.Can Go.aV List
theorem Ct {u:Un}(hu:jx u):∀ (l:List Int) {k:Nat} {s:Sy},nK u k s->B4 s->B4 (nZ u l s)
 | [],_,_,_,h=>h
 | t::r,k,s,hs,h=>by
  simp only[nZ];split
  .exact Ct hu r (qz hu hs t) (Jq hu hs h t)
  .exact Ct hu r hs h
def HT (u:Un)(y z:Sy):List (Nat×Ob):=[(12,⟨40,0,dK z⟩),(3,⟨40,0,dK y⟩),(2,⟨34,0,oY (cc u)⟩),(1,⟨30,0,eD u⟩)]
def J4 (u:Un)(y z:Sy)(tj mi:Nat)(n:Nat)(s:St):Prop:=∃ i:Nat,n=z.ts.length-i/\i<=z.ts.length/\
 s=⟨[(15,I i),(13,.ax 12 0),(12,.ax 3 0),(11,.ax 2 0),(10,.ax 1 0),(3,I mi),(2,I tj)],HT u y z,13⟩
def J4b (u:Un)(y z:Sy)(tj mi i q:Nat)(n:Nat)(s:St):Prop:=∃ (k:Nat) (b:Bool),n=(cc u).roots.length-k/\k<=(cc u).roots.length/\(b=true↔∃ j<k,(cc u).roots[j]? = some q)/\
 s=⟨[(21,I k),(20,.bool b),(16,.ax 13 0),(15,I i),(13,.ax 12 0),(12,.ax 3 0),(11,.ax 2 0),(10,.ax 1 0),(3,I mi),(2,I tj)],(13,⟨48,0,nH 0 [(q,0)]⟩)::HT u y z,14⟩
set_option maxHeartbeats 4000000 in
theorem Ns (l pk:List Int)(hl:l.length<=9223372036854775807)(T5:pk.length<=9223372036854775807)(t m:Int):af Tryz.prog 4 [ints l,ints pk,I t,I m] (.bool true):=by
 have Xq:=as_ok;have TE:=Ji l hl;have R1:=AH l;generalize lQ (BX l)=u at TE R1;have Pk:=GL R1 pk T5;have SL:=Cs R1 (cV pk 60) (vt R1);have hyr:=Ct R1 (cV pk 60) (vt R1) (ML R1);have hyo:=Cu R1 (cV pk 60) (vt R1) (MM u);have hk:0+(cV pk 60).length<=60:=by rw[gH];omega
 generalize nZ u (cV pk 60) (iJ u)=y at Pk SL hyr hyo;generalize 0+(cV pk 60).length=k at SL hk;have P5:=R1.nm;have R3:=EJ y SL.ts.1 (by have:=SL.ts.2;omega) t;have Sg:=Fx u yA yA m;obtain⟨mi,SW,UN⟩:=Bp m u.ms.length yA;obtain⟨tj,htj,htjl⟩:=Bp t y.ts.length (by have:=SL.ts.1;omega);rw[SW] at Sg;rw[htj] at R3;have Qp:=E9 R1 yA SL hyr tj;have YG:=qz R1 SL (tj:Int);have Sf:=CJ R1 SL hyo tj UN;have hrt:=(Jh R1 (Nat.le_refl 8)).root;have Y2:=KE R1;have OP:=(zu R1).1;generalize fy u y tj=r at Qp YG Sf;obtain⟨z,ok⟩:=r;simp only at Qp YG Sf;have hpy:=λ i:Nat=>n8 R1 yA SL (i:Int) mi UN;have hpz:=λ i:Nat=>n8 R1 yA YG (i:Int) mi UN;have Uq:=λ (i d:Nat) l h=>An R1 yA SL (t:=(i:Int)) (m:=mi) (d:=d) (l:=l) h;have hbz:=λ (i d:Nat) l h=>An R1 yA YG (t:=(i:Int)) (m:=mi) (d:=d) (l:=l) h;have PR:=bt u;have tcl:trees (oY (cc u))=true:=by simp only[trees,tree,oY,aN,Bool.and_self]
 obtain⟨t1,t2,t3⟩:=hU (BX l);have WN:trees [ints l]=true:=by simp only[trees,bD,Bool.and_self]
 have P7:∀ y:Sy,trees (dK y)=true:=λ y=>by simp only[dK,trees,tree,ints,Bool.and_self]
 have Wg:trees [cb u,ints pk]=true:=by simp only[trees,tree,cb,PR,bD,Bool.and_self]
 have Wf:trees [bp y,I t]=true:=by simp only[trees,tree,bp,P7,Bool.and_self]
 have ta6:trees [cb u,I m]=true:=by simp only[trees,tree,cb,PR,Bool.and_self]
 have ta5:∀ (y:Sy) (t:Int),trees [cb u,oZ (cc u),bp y,I t,I mi]=true:=λ y t=>by
  simp only[trees,tree,cb,PR,oZ,tcl,bp,P7,Bool.and_self]
 have ta7:trees [cb u,bp y,I tj]=true:=by
  simp only[trees,tree,cb,PR,bp,P7,Bool.and_self]
 generalize BX l=pg at TE t1 t2 t3;have Ug:=ah cP (cc u).is;have Qy:=jn (cc u).calls;have Vb:=aM (cc u).roots;have Tk:trees (u.gs.map bj)=true:=aB u.gs;have Tj:=dm u.ms;have bY:trees (u.ps.flatMap mw)=true:=ah eX u.ps;have tG:∀ y:Sy,trees (y.gs.map bj)=true:=λ y=>aB y.gs;have tT:∀ y:Sy,trees (y.tb.flatMap cg)=true:=λ y=>ah ba _;have tS:∀ y:Sy,trees (y.ts.flatMap cd)=true:=λ y=>ah aK _;have tPt:∀ l:List (Nat×Nat),trees (l.flatMap nk)=true:=λ l=>ah fZ _;refine af.aC ag Tryz.func4 rfl GK (by simp[Tryz.ntmps4]) rfl λ C hC OR=>?_;rw[Tryz.ntmps4] at hC;simp only[xB,eU,cb,eD,oZ,oY,bp,dK,ints,aN] at TE WN Wg Wf ta5 ta6 ta7 Sg R3 Pk Qp hpy hpz |-;apply aq;simp[hC];apply aq;simp[hC];refine ct WN TE ?_;simp[hC];apply aq;simp[hC];refine ct Wg Pk ?_;simp[hC];apply T.seq;refine T.rx ag follows [0,1,3,4,2,5,6,7] [(3,2)] GK ?_;simp[hC];refine RX.call rfl xr rfl rfl rfl Wf R3 ?_;simp;refine RX.call rfl xr rfl rfl rfl ta6 Sg ?_;simp;apply aq;simp[hC];refine ct ta7 Qp ?_;simp[hC]
 cases ok with
 | false=>
  apply aT;simp[hC];refine cX ?_;simp;apply aq;simp;refine ct rfl Xq ?_;simp[hC];apply T.ret;apply aa.here;simp[Tryz.results4]
 | true=>
  apply aT;simp[hC];refine eQ ?_;simp;apply aT;simp[hC];apply T.block;have hz32:=YG.ts.2;refine T.aQ (J4 u y z tj mi) (n:=z.ts.length) ?_ ?_
  .refine aa.trim [15,13,12,11,10,3,2] [12,3,2,1] 13 Qr yA ⟨0,by omega,by omega,?_⟩;simp[HT,eD,oY,dK,ints,aN]
  .rintro n s ⟨i,rfl,hi,rfl⟩;simp only[HT,eD,oY,dK,ints,aN];by_cases UW:i<z.ts.length
   .have wi:=cw ((i:Int)+1) yA yA;obtain⟨d,Pz,ho⟩:=xy (u:=u) UW UN;obtain⟨c1,c2⟩:=hbz i d Pz ho;have W2:=hpz i;have tz:=ta5 z i;rw[ho] at W2;simp only[Lu,nH] at W2 tz;apply aT;simp[hC,UW];refine iI ?_;simp;apply eZ;apply aq;simp[hC];refine ct tz W2 ?_;simp[hC];apply aT;simp[hC];refine eQ ?_;simp;by_cases V0:i<y.ts.length
    .obtain⟨d',Py,hoy⟩:=xy (u:=u) V0 UN;have W3:=hpy i;have ty:=ta5 y i;rw[hoy] at W3;simp only[Lu,nH] at W3 ty;apply aT;simp[hC,V0];refine cX ?_;simp;apply aq;simp[hC];refine ct ty W3 ?_;simp[hC];by_cases Ps:i=tj
     .have PH:((i:Int) != tj)=false:=by rw[Ps];simp
      apply aT;simp[hC,PH];refine eQ ?_;simp;apply T.exit;simp;apply aG;simp[hC,wi];refine⟨z.ts.length-(i+1),by omega,aa.trim [15,13,12,11,10,3,2] [12,3,2,1] 13 Qr yA ⟨i+1,rfl,by omega,?_⟩⟩;simp[HT,eD,oY,dK,ints,aN]
     .have PH:((i:Int) != tj)=true:=by rw[bne_iff_ne];omega
      have he:=(Sf i UW).1 V0 Ps;rw[ho,hoy,Option.some.injEq,Prod.mk.injEq] at he;obtain⟨rfl,rfl⟩:=he;have Rz:=Jy d Pz c1 c2;have XF:trees [.agg (nH d Pz),.agg (nH d Pz)]=true:=by simp only[trees,tree,nH,Bool.and_self]
      simp only[nH] at Rz XF;apply aT;simp[hC,PH];refine TL.cU OU rfl rfl rfl rfl (bR.of rfl XF Rz) (TL.go' ag ?_);simp[hC];refine eQ ?_;simp;apply T.exit;simp;apply aG;simp[hC,wi];refine⟨z.ts.length-(i+1),by omega,aa.trim [15,13,12,11,10,3,2] [12,3,2,1] 13 Qr yA ⟨i+1,rfl,by omega,?_⟩⟩;simp[HT,eD,oY,dK,ints,aN]
    .obtain⟨q,hq,hoq⟩:=(Sf i UW).2 yA;rw[ho,Option.some.injEq,Prod.mk.injEq] at hoq;obtain⟨rfl,rfl⟩:=hoq;have hq49:=hrt q hq;apply aT;simp[hC,V0];refine eQ ?_;simp;apply aq;simp[hC];apply aT;simp[hC];apply T.block;refine T.aQ (J4b u y z tj mi i q) (n:=(cc u).roots.length) ?_ ?_
     .refine aa.trim [21,20,16,15,13,12,11,10,3,2] [13,12,3,2,1] 14 yDg yA ⟨0,false,by omega,by omega,by simp,?_⟩;simp[HT,eD,oY,dK,ints,aN,nH]
     .rintro n s ⟨k',b,rfl,X2,hb,rfl⟩;simp only[HT,eD,oY,dK,ints,aN,nH];by_cases Pa:k' < (cc u).roots.length
      .obtain⟨r,hr⟩:∃ r,(cc u).roots[k']? = some r:=⟨_,getElem?_eq_getElem Pa⟩;have hr49:=hrt r (mem_of_getElem? hr);have OS:=kj hr;have hbg:=Ff (cc u) r;have Rz:=G5 0 0 [(q,0)] [(r,0)] xr xr (λ p hp=>by rw[mem_singleton.1 hp];exact⟨by simp only;omega,by simp⟩) (λ p hp=>by rw[mem_singleton.1 hp];exact⟨by simp only;omega,by simp⟩);have tbg:trees [oZ (cc u),I r]=true:=by simp only[trees,tree,oZ,tcl,Bool.and_self]
       have XF:trees [.agg (nH 0 [(q,0)]),.agg (nH 0 [(r,0)])]=true:=by simp only[trees,tree,nH,Bool.and_self]
       simp only[oZ,oY,nH,aN] at hbg Rz tbg XF;have wk:=cw ((k':Int)+1) yA yA;apply aT;simp[hC,Pa];refine iI ?_;simp;apply eZ
       cases b with
       | true=>
        refine T.rx ag follows [0,1,2,3,4,5,6,7,8,9,10,11,12] [(2,9)] GK ?_;simp[hC];apply aG;simp[hC,wk];refine⟨(cc u).roots.length-(k' + 1),by omega,aa.trim [21,20,16,15,13,12,11,10,3,2] [13,12,3,2,1] 14 yDg yA ⟨k' + 1,true,rfl,by omega,?_,?_⟩⟩
        .obtain⟨j,h1,h2⟩:=hb.1 rfl;exact⟨λ _=>⟨j,by omega,h2⟩,λ _=>rfl⟩
        .simp[HT,eD,oY,dK,ints,aN,nH]
       | false=>
        refine T.rx ag follows [0,1,2,3,4,5,6,7,8,9,10,11,12] [(2,9)] GK ?_;simp[hC,Pa,OS];refine RX.call rfl xr rfl rfl rfl tbg hbg ?_;simp;refine RX.call rfl xr rfl rfl rfl XF Rz ?_;simp;apply aG;simp[hC,wk];refine⟨(cc u).roots.length-(k' + 1),by omega,aa.trim [21,20,16,15,13,12,11,10,3,2] [13,12,3,2,1] 14 yDg yA ⟨k' + 1,decide (q=r),rfl,by omega,?_,?_⟩⟩
        .constructor
         .intro h;exact⟨k',by omega,by rw[hr,of_decide_eq_true h]⟩
         .rintro⟨j,h1,h2⟩;by_cases hjk:j=k'
          .subst hjk;rw[hr] at h2;cases h2;exact decide_eq_true rfl
          .exact absurd (hb.2 ⟨j,by omega,h2⟩) xr
        .simp[HT,eD,oY,dK,ints,aN,nH]
      .obtain⟨j,hj⟩:=mem_iff_getElem?.1 hq;have Ya:b=true:=hb.2 ⟨j,by have:=(List.getElem?_eq_some_iff.1 hj).1;omega,hj⟩;subst Ya;apply aT;simp[hC,Pa];refine T.cond (b:=false) PC ?_;simp;apply T.exit;simp;apply aq;simp[hC];refine eQ ?_;simp;apply aG;simp[hC,wi];refine⟨z.ts.length-(i+1),by omega,aa.trim [15,13,12,11,10,3,2] [12,3,2,1] 13 Qr yA ⟨i+1,rfl,by omega,?_⟩⟩;simp[HT,eD,oY,dK,ints,aN]
   .apply aT;simp[hC,UW];refine T.cond (b:=false) PC ?_;simp;apply T.exit;simp;apply aq;simp;refine ct rfl Xq ?_;simp[hC];apply T.ret;apply aa.here;simp[Tryz.results4]
end Go.Proofs.YtlkmbdfhdknlgaaGreat
namespace Go.Can
open Go.ChangeShapes Go.WideShapes Go.ChangeAt Go.RowKit List
section
variable {P:Program}{H:Type}{enc:TypeId×Value->H}{w:World}
theorem Hu {F:Nat->Prop}(hF:∀ b,¬ F b):∀ (cs:List CV) (ad:Addr),cs.all one=true->(∀ i c,cs[i]? = some c->∃ u,w.cell? (ad.add i)=some u/\cr w F c u)->fx w F cs ad
 | [],_,_,_=>by simp[fx]
 | c::cs,ad,h1,h=>by
  simp only[all_cons,Bool.and_eq_true] at h1;obtain⟨u,k1,k2⟩:=h 0 c rfl;rw[add_zero] at k1;simp only[fx];refine⟨⟨u,k1,hF _,k2⟩,h1.1,Hu hF cs _ h1.2 λ i d hi=>?_⟩;obtain⟨v,m1,m2⟩:=h (i+1) d yBy;refine⟨v,?_,m2⟩;rw[add_add,Nat.add_comm];exact m1
theorem JU {α:Type}(f:α->CV)(h:∀ x,one (f x)=true)(l:List α):(l.map f).all one=true:=by
 rw[all_eq_true];intro x hx;obtain⟨y,_,rfl⟩:=mem_map.1 hx;exact h y
theorem IM {F:Nat->Prop}(cs:List CV)(h:cs=[]):cr w F (.au cs 0) (.slice none 0 0):=by
 subst h;simp only[cr];exact⟨none,0,rfl,Nat.le_refl _,Nat.zero_le _,.inl ⟨trivial,by simp⟩⟩
theorem pD {F:Nat->Prop}(hF:∀ b,¬ F b){t e:TypeId}{r:Reach}{b0:Nat}{v:Value}{d:DataW H}{ps:List MemPlace}(ht:P.underlying t=some (.slice e))(he:P.underlying e=some (.int .i64))(hc:P.cellsOf e=1)
  (QQ:Value.okWide P w r b0 t v) (h:DataW.Trod enc P w 0 (λ _=>true) true t v d ps):∃ l:List Int,cr w F (ints l) v/\l.length<=9223372036854775807:=by
 obtain⟨a,n,cap,rfl⟩:=okWide_slice ht QQ;obtain⟨fuel,hf⟩:=h;rcases open_ints ht he hc hf with ⟨PQ,_⟩ | ⟨a',len,cap',zs,PQ,_,hl,hm,hz,_,Rj,_⟩
 .simp[Value.cells] at PQ;obtain⟨rfl,rfl,rfl⟩:=PQ;exact⟨[],IM _ rfl,by simp⟩
 .simp[Value.cells] at PQ;obtain⟨rfl,rfl,rfl⟩:=PQ;simp only[if_true] at hz;have hlen:(zs.take n).length=n:=by simp;omega
  refine⟨zs.take n,?_,by rw[hlen];simp only[maxLen] at hm;omega⟩;unfold ints;rw[hlen];simp only[cr];refine⟨_,cap,rfl,hl,hm,.inr ⟨a',rfl,Hu hF _ _ (JU _ (λ _=>rfl) _) λ i c hi=>?_⟩⟩;rw[getElem?_map] at hi;obtain⟨z,Sc,rfl⟩:=Option.map_eq_some_iff.1 hi;rw[getElem?_take] at Sc;split at Sc
  .rename_i OZ;have OT:i<zs.length:=by omega
   refine⟨_,Rj i OT,?_⟩;have:zs.getD i 0=z:=by simp[getD,Sc]
   rw[this];simp[cr]
  .cases Sc
theorem af.calls {f:FuncId}{args:List CV}{b:Bool}(h:af P f args (.bool b)){vs:List Value}(hv:ca w (λ _=>False) args vs)(hg:NH w (λ _=>False):=by simp[NH,NG]):Calls P f vs.toArray w λ e w'=>e=.returned (.bool b)/\Below w.heap.size w w':=
 (h.2 (λ _=>False) vs w ⟨λ _ hb=>hb.elim,hg.mono λ _ hb=>hb.elim id id⟩ hv).mono λ e w' ⟨v,h1,h2,h3⟩=>by
  simp only[cr] at h3;subst h3;exact⟨h1,h2⟩
end
end Go.Can
/- Arguments as the contracts read them: a slice of structs of four integers. No function of the program is mentioned here. -/
