/- Valid: a made program is valid. | The code of a program: what lowering makes of it, and its form. No function of the program is mentioned here. | The code of a made program is of the right form. No function of the program is mentioned here. -/
import Derived.Test.YtmnglemlimfpbaaGreatZ35
import Derived.Test.YtmnglemlimfpbaaGreatZ23
import Derived.Test.YtmnglemlimfpbaaGreatZ22
namespace Go.Proofs.YtmnglemlimfpbaaGreat
open Go.Can Go.bg
def J57a (p:Pg)(n:Nat)(s:St):Prop:=∃ i:Nat,n=p.gs.length-i∧i≤p.gs.length∧s=⟨[(3,I i),(1,.aq 0 0)],[(0,⟨27,0,dq p⟩)],1⟩
def J57b (p:Pg)(n:Nat)(s:St):Prop:=∃ i:Nat,n=p.ms.length-i∧i≤p.ms.length∧s=⟨[(4,I i),(1,.aq 0 0)],[(0,⟨27,0,dq p⟩)],1⟩
def J57c (p:Pg)(n:Nat)(s:St):Prop:=∃ i:Nat,n=p.fs.length-i∧i≤p.fs.length∧s=⟨[(6,I i),(1,.aq 0 0)],[(0,⟨27,0,dq p⟩)],1⟩
def J57d (p:Pg)(i:Nat)(f:Fu)(n:Nat)(s:St):Prop:=∃ q:Nat,n=f.params.length-q∧q≤f.params.length∧s=⟨[(8,I q),(7,.aq 1 0),(6,I i),(1,.aq 0 0)],[(0,⟨27,0,dq p⟩),(1,⟨137,0,eP f⟩)],2⟩
set_option maxHeartbeats 8000000 in
theorem C0 (p:Pg)(h:jJ p):ah Tryz.prog 57 [qX p] (.bool true):=by
 have hT:=Ic h
 have hTs:(BS p).size≤262144:=by have:=hT.2;rw[kq] at this;exact this
 obtain⟨k1,hk1,e1⟩:=h.gn
 obtain⟨k2,_,hk2,e2⟩:=h.mn
 obtain⟨k3,_,hk3,e3⟩:=h.fn
 have l1:=congrArg List.length e1
 have l2:=congrArg List.length e2
 have l3:=congrArg List.length e3
 simp[nG] at l1
 simp[nM] at l2
 simp[nF] at l3
 clear e1 e2 e3
 have hpr:=xI p (by omega) (by omega) (by omega) (by omega) (fun g hg=>by have:=h.gi g hg;omega) (fun m hm=>by have:=(h.mz m hm).1;omega) (fun f hf=>⟨by have:=h.pl f hf;omega,h.lnb f hf⟩)
 have hlx:=Ir (bs (BS p)) hT.2 hT.1
 have g1:¬ (16:Int)<p.gs.length:=by omega
 have g2:¬ (12:Int)<p.ms.length:=by omega
 have g3:¬ (16:Int)<p.fs.length:=by omega
 have fg:=fun (k:Nat) (a:Gl) (h:p.gs[k]? = some a)=>aV (f:=ny) (n:=2) (fun _=>rfl) h
 have fg1:=fun (k:Nat) (a:Gl) (h:p.gs[k]? = some a)=>bG (f:=ny) (n:=2) (fun _=>rfl) h 1 (by omega)
 have fm:=fun (k:Nat) (a:Mx) (h:p.ms[k]? = some a)=>aV (f:=js) (n:=3) (fun _=>rfl) h
 have ff:=fun (k:Nat) (a:Fu) (h:p.fs[k]? = some a)=>aV (f:=eP) (n:=3) (fun _=>rfl) h
 refine ah.bl aa Tryz.func57 rfl (by kernel_rfl) (by simp[Tryz.ntmps57]) rfl fun C hC hC0=>?_
 rw[Tryz.ntmps57] at hC
 refine T.seq (T.go' aa ?_)
 simp[hC,qX,dq]
 refine T.seq (T.seq (T.go' aa ?_))
 simp[hC,g1,g2,g3]
 refine T.cond (b:=false) rfl (T.skip ?_)
 simp
 refine T.cut (fun s=>s=⟨[(1,.aq 0 0)],[(0,⟨27,0,dq p⟩)],1⟩) ?_ ?_
 ·refine T.seq (T.go' aa ?_)
  simp[hC]
  refine T.block ?_
  refine T.aS (J57a p) (n:=p.gs.length) ?_ ?_
  ·refine ae.trim [3,1] [0] 1 (by simp) (by omega) ⟨0,by omega,by omega,?_⟩
   simp[dq]
  ·rintro n s ⟨i,rfl,hi,rfl⟩
   by_cases hil:i<p.gs.length
   ·obtain⟨a,hia⟩:∃ a,p.gs[i]? = some a:=⟨p.gs[i],List.getElem?_eq_getElem hil⟩
    have hdr:=fg i a hia
    have hdr1:=fg1 i a hia
    have hm:=List.mem_of_getElem? hia
    have hn:=iZ a.name (h.gR a hm).1 (h.gR a hm).2
    have hin:(a.init == -9223372036854775808)=false:=by have:=h.gi a hm;simp;omega
    have wi:=db ((i:Int)+1) (by omega) (by omega)
    refine T.seq (T.seq (T.go' aa ?_))
    simp[hC,hil,dq]
    refine T.cond (b:=true) rfl (T.skip ?_)
    simp
    refine T.seq (T.block ?_)
    refine T.seq (T.go' aa ?_)
    simp[hC,hil,hdr,ny]
    refine TL.call (by simp[hC]) rfl rfl (aI.of rfl (by first | rfl | simp only[List.cons_append,List.nil_append,List.append_nil,trees,tree,ag,ak,Bool.and_self,Bool.and_true,Bool.true_and]) (hn)) (TL.go' aa ?_)
    simp[hC,hil,hdr,hin,ny]
    refine T.cond (b:=false) rfl (T.skip ?_)
    simp
    refine T.go' aa ?_
    simp[hC,wi]
    refine⟨p.gs.length-(i+1),by omega,?_⟩
    refine ae.trim [3,1] [0] 1 (by simp) (by omega) ⟨i+1,rfl,by omega,?_⟩
    simp[dq]
   ·refine T.seq (T.seq (T.go' aa ?_))
    simp[hC,hil,dq]
    refine T.cond (b:=false) rfl ?_
    simp
    refine T.exit ?_
    simp
    refine ae.trim [1] [0] 1 (by simp) (by omega) ?_
    simp
 rintro s rfl
 refine T.cut (fun s=>s=⟨[(1,.aq 0 0)],[(0,⟨27,0,dq p⟩)],1⟩) ?_ ?_
 ·refine T.seq (T.go' aa ?_)
  simp[hC]
  refine T.block ?_
  refine T.aS (J57b p) (n:=p.ms.length) ?_ ?_
  ·refine ae.trim [4,1] [0] 1 (by simp[dq]) (by omega) ⟨0,by omega,by omega,?_⟩
   simp[dq]
  ·rintro n s ⟨i,rfl,hi,rfl⟩
   by_cases hil:i<p.ms.length
   ·obtain⟨a,hia⟩:∃ a,p.ms[i]? = some a:=⟨p.ms[i],List.getElem?_eq_getElem hil⟩
    have hdr:=fm i a hia
    have hm:=List.mem_of_getElem? hia
    have hn:=iZ a.name (h.mR a hm).1 (h.mR a hm).2
    have hz:=h.mz a hm
    have wi:=db ((i:Int)+1) (by omega) (by omega)
    have z1:¬ (a.size:Int)<0:=by omega
    have z2:¬ (64:Int)<a.size:=by omega
    refine T.seq (T.seq (T.go' aa ?_))
    simp[hC,hil,dq]
    refine T.cond (b:=true) rfl (T.skip ?_)
    simp
    refine T.seq (T.block ?_)
    refine T.seq (T.go' aa ?_)
    simp[hC,hil,hdr,js]
    cases hre:a.re with
    | true=>
     have z3:=hz.2 hre
     refine T.seq (T.go' aa ?_)
     simp[hC]
     refine TL.call (by simp[hC]) rfl rfl (aI.of rfl (by first | rfl | simp only[List.cons_append,List.nil_append,List.append_nil,trees,tree,ag,ak,Bool.and_self,Bool.and_true,Bool.true_and]) (hn)) (TL.go' aa ?_)
     simp[hC,z3]
     refine T.cond (b:=false) rfl (T.skip ?_)
     simp
     refine T.go' aa ?_
     simp[hC,wi]
     refine⟨p.ms.length-(i+1),by omega,?_⟩
     refine ae.trim [4,1] [0] 1 (by simp) (by omega) ⟨i+1,rfl,by omega,?_⟩
     simp[dq]
    | false=>
     refine T.seq (T.go' aa ?_)
     simp[hC]
     refine TL.call (by simp[hC]) rfl rfl (aI.of rfl (by first | rfl | simp only[List.cons_append,List.nil_append,List.append_nil,trees,tree,ag,ak,Bool.and_self,Bool.and_true,Bool.true_and]) (hn)) (TL.go' aa ?_)
     simp[hC,z1,z2]
     refine T.cond (b:=false) rfl (T.skip ?_)
     simp
     refine T.go' aa ?_
     simp[hC,wi]
     refine⟨p.ms.length-(i+1),by omega,?_⟩
     refine ae.trim [4,1] [0] 1 (by simp) (by omega) ⟨i+1,rfl,by omega,?_⟩
     simp[dq]
   ·refine T.seq (T.seq (T.go' aa ?_))
    simp[hC,hil,dq]
    refine T.cond (b:=false) rfl ?_
    simp
    refine T.exit ?_
    simp
    refine ae.trim [1] [0] 1 (by simp) (by omega) ?_
    simp
 rintro s rfl
 refine T.cut (fun s=>s=⟨[(1,.aq 0 0)],[(0,⟨27,0,dq p⟩)],1⟩) ?_ ?_
 ·refine T.seq (T.go' aa ?_)
  simp[hC]
  refine T.block ?_
  refine T.aS (J57c p) (n:=p.fs.length) ?_ ?_
  ·refine ae.trim [6,1] [0] 1 (by simp[dq]) (by omega) ⟨0,by omega,by omega,?_⟩
   simp[dq]
  ·rintro n s ⟨i,rfl,hi,rfl⟩
   by_cases hil:i<p.fs.length
   ·obtain⟨a,hia⟩:∃ a,p.fs[i]? = some a:=⟨p.fs[i],List.getElem?_eq_getElem hil⟩
    have hdr:=ff i a hia
    have hm:=List.mem_of_getElem? hia
    have hn:=iZ a.name (h.fR a hm).1 (h.fR a hm).2
    have hb:=h.okb a hm
    have hpl:=h.pl a hm
    have wi:=db ((i:Int)+1) (by omega) (by omega)
    have z1:¬ (6:Int)<a.params.length:=by omega
    refine T.seq (T.seq (T.go' aa ?_))
    simp[hC,hil,dq]
    refine T.cond (b:=true) rfl (T.skip ?_)
    simp
    refine T.seq (T.block ?_)
    refine T.seq (T.go' aa ?_)
    simp[hC,hil,hdr,eP]
    refine T.seq (T.seq (T.go' aa ?_))
    simp[hC]
    refine TL.call (by simp[hC]) rfl rfl (aI.of rfl (by first | rfl | simp only[List.cons_append,List.nil_append,List.append_nil,trees,tree,ag,ak,Bool.and_self,Bool.and_true,Bool.true_and]) (hn)) (TL.go' aa ?_)
    simp[hC,z1]
    refine TL.bT (by simp[hC]) rfl rfl rfl rfl (aI.of rfl (by first | rfl | simp only[List.cons_append,List.nil_append,List.append_nil,trees,tree,ag,ak,Bool.and_self,Bool.and_true,Bool.true_and]) (hb)) (TL.go' aa ?_)
    simp[hC]
    refine T.cond (b:=false) rfl (T.skip ?_)
    simp
    refine T.seq (T.go' aa ?_)
    simp[hC]
    refine T.block ?_
    refine T.aS (J57d p i a) (n:=a.params.length) ?_ ?_
    ·refine ae.trim [8,7,6,1] [0,1] 2 (by simp) (by omega) ⟨0,by omega,by omega,?_⟩
     simp[dq,eP]
    ·rintro n s ⟨q,rfl,hq,rfl⟩
     by_cases hql:q<a.params.length
     ·obtain⟨b,hqb⟩:∃ b,a.params[q]? = some b:=⟨a.params[q],List.getElem?_eq_getElem hql⟩
      have hp0:=aV (f:=jL) (n:=2) (fun _=>rfl) hqb
      have hbm:=List.mem_of_getElem? hqb
      have hn2:=iZ b.name (h.pR a hm b hbm).1 (h.pR a hm b hbm).2
      have wq:=db ((q:Int)+1) (by omega) (by omega)
      refine T.seq (T.seq (T.go' aa ?_))
      simp[hC,hql,eP]
      refine T.cond (b:=true) rfl (T.skip ?_)
      simp
      refine T.seq (T.block ?_)
      refine T.seq (T.go' aa ?_)
      simp[hC,hql,hp0,jL]
      refine TL.call (by simp[hC]) rfl rfl (aI.of rfl (by first | rfl | simp only[List.cons_append,List.nil_append,List.append_nil,trees,tree,ag,ak,Bool.and_self,Bool.and_true,Bool.true_and]) (hn2)) (TL.go' aa ?_)
      simp[hC]
      refine T.cond (b:=false) rfl (T.skip ?_)
      simp
      refine T.go' aa ?_
      simp[hC,wq]
      refine⟨a.params.length-(q+1),by omega,?_⟩
      refine ae.trim [8,7,6,1] [0,1] 2 (by simp[dq]) (by omega) ⟨q+1,rfl,by omega,?_⟩
      simp[dq,eP]
     ·refine T.seq (T.seq (T.go' aa ?_))
      simp[hC,hql,eP]
      refine T.cond (b:=false) rfl ?_
      simp
      refine T.exit ?_
      simp
      refine T.go' aa ?_
      simp[hC,wi]
      refine⟨p.fs.length-(i+1),by omega,?_⟩
      refine ae.trim [6,1] [0] 1 (by simp[dq]) (by omega) ⟨i+1,rfl,by omega,?_⟩
      simp[dq]
   ·refine T.seq (T.seq (T.go' aa ?_))
    simp[hC,hil,dq]
    refine T.cond (b:=false) rfl ?_
    simp
    refine T.exit ?_
    simp
    refine ae.trim [1] [0] 1 (by simp) (by omega) ?_
    simp
 rintro s rfl
 refine T.seq (T.go' aa ?_)
 simp[hC,dq]
 refine TL.call (by simp[hC]) rfl rfl (aI.of rfl (by rfl) hpr) (TL.yX aa ?_)
 have hTz:(BS p).size≤1000000:=by omega
 have hby:dn (bs (BS p))=.ax (oa (BS p)) (BS p).size:=by rw[dn,kq];rfl
 rw[hby] at hlx
 simp[hC,hTz]
 refine TL.E7 (by simp[hC]) rfl rfl rfl (by rfl) hlx fun r hr=>TL.go' aa ?_
 obtain⟨cs,n,e,rfl⟩:=hr
 simp[hC]
 refine T.seq (T.go' aa ?_)
 simp[hC]
 refine T.ret ?_
 refine ae.here ?_
 simp[Tryz.results57]
end Go.Proofs.YtmnglemlimfpbaaGreat
namespace Go.bg
open Go.Can
structure En where
 name:ByteArray
 kind:Nat
 n:Nat
def gJ (x:En):List CV:=[.str x.name,I x.kind,I x.n]
def ig:List En→ByteArray→Option En
 | [],_=>none
 | x::r,s=>if x.name=s then some x else ig r s
def kK (E:List En)(s:ByteArray):En:=(ig E s).getD ⟨eS,0,0⟩
theorem gA {E:List En}{s:ByteArray}{x:En}(h:ig E s=some x):kK E s=x:=by simp[kK,h]
theorem di (A B:List En)(s:ByteArray):ig (A++B) s=(match ig A s with
  | some x=>some x
  | none=>ig B s):=by
 induction A with
 | nil=>rfl
 | cons a r ih=>
  simp only[List.cons_append,ig]
  split
  ·rfl
  ·exact ih
theorem oX {E:List En}{s:ByteArray}:ig E s=none↔s∉E.map (·.name):=by
 induction E with
 | nil=>simp[ig]
 | cons a r ih=>
  simp only[ig,List.map_cons,List.mem_cons,not_or]
  split
  ·rename_i h
   simp[h]
  ·rename_i h
   rw[ih]
   exact⟨fun h2=>⟨fun e=>h e.symm,h2⟩,fun h2=>h2.2⟩
def dB (E:List En):Ex→Ex
 | .nm s=>if (kK E s).kind=1 then .jv (kK E s).n else .loc (kK E s).n
 | .un k e=>.un k (dB E e)
 | .bin k a b=>.bin k (dB E a) (dB E b)
 | e=>e
def vF (E:List En)(r:Rf):Pl:=⟨decide ((kK E r.name).kind=5),(kK E r.name).n,r.index.map (dB E)⟩
def cS (E:List En):List Ar→List Ex
 | []=>[]
 | .exp e::l=>dB E e::cS E l
 | .sr _::l=>cS E l
def eH (E:List En):List Ar→List Pl
 | []=>[]
 | .exp _::l=>eH E l
 | .sr r::l=>vF E r::eH E l
def eW (k:Nat):Sm→List En
 | .gr s _=>[⟨s,4,k⟩]
 | _=>[]
mutual
/-- The code of a statement that begins at place b, and the number of locals after it. -/
def dJ:Sm→List En→Nat→Nat→List In×Nat
 | .gr _ e,E,k,_=>([.set k false (dB E e)],k+1)
 | .gV s e,E,k,_=>([.set (kK E s).n (decide ((kK E s).kind=1)) (dB E e)],k)
 | .dI g s l,E,k,_=>([.call g (kK E s).n (cS E l) (eH E l)],k)
 | .dg u r,E,k,_=>([.lock u (vF E r)],k)
 | .ku e th el,E,k,b=>
  if el.length=0 then (.branch (b+1+(bI th E k (b+1)).1.length) (dB E e)::(bI th E k (b+1)).1,(bI th E k (b+1)).2)
  else (.branch (b+2+(bI th E k (b+1)).1.length) (dB E e)::((bI th E k (b+1)).1++.jump (b+2+(bI th E k (b+1)).1.length+(bI el E (bI th E k (b+1)).2 (b+2+(bI th E k (b+1)).1.length)).1.length) ::
   (bI el E (bI th E k (b+1)).2 (b+2+(bI th E k (b+1)).1.length)).1),(bI el E (bI th E k (b+1)).2 (b+2+(bI th E k (b+1)).1.length)).2)
 | .cj e th,E,k,b=>(.branch (b+2+(bI th E k (b+1)).1.length) (dB E e)::((bI th E k (b+1)).1++[.jump b]),(bI th E k (b+1)).2)
 | .iU,_,k,_=>([.ret],k)
def bI:List Sm→List En→Nat→Nat→List In×Nat
 | [],_,k,_=>([],k)
 | s::r,E,k,b=>((dJ s E k b).1++(bI r (E++eW k s) (dJ s E k b).2 (b+(dJ s E k b).1.length)).1,(bI r (E++eW k s) (dJ s E k b).2 (b+(dJ s E k b).1.length)).2)
end
mutual
/-- The number of statements. -/
def mP:Sm→Nat
 | .ku _ th el=>1+eR th+eR el
 | .cj _ th=>1+eR th
 | _=>1
def eR:List Sm→Nat
 | []=>0
 | s::r=>mP s+eR r
end
mutual
/-- The statements of the instructions; the statement itself is number s. -/
def tH:Sm→Nat→List Nat
 | .ku _ th el,s=>if el.length=0 then s::gU th (s+1) else s::(gU th (s+1)++s::gU el (s+1+eR th))
 | .cj _ th,s=>s::(gU th (s+1)++[s])
 | _,s=>[s]
def gU:List Sm→Nat→List Nat
 | [],_=>[]
 | x::r,s=>tH x s++gU r (s+mP x)
end
def AU (c:Nat):Nat→List ByteArray→List En
 | _,[]=>[]
 | i,s::r=>⟨s,c,i⟩ :: AU c (i+1) r
def cT (p:Pg):List En:=AU 1 0 (p.gs.map (·.name))++AU 2 0 (p.ms.map (·.name))++AU 3 0 (p.fs.map (·.name))
def j8:Nat→Nat→List Pm→List En
 | _,_,[]=>[]
 | i,j,p::r=>if p.mutex=true then ⟨p.name,5,j⟩ :: j8 i (j+1) r else ⟨p.name,4,i⟩ :: j8 (i+1) j r
def pI:List Pm→Nat
 | []=>0
 | p::r=>(if p.mutex=true then 0 else 1)+pI r
def pL:List Pm→Nat
 | []=>0
 | p::r=>(if p.mutex=true then 1 else 0)+pL r
def pE (p:Pg)(f:Fu):List En:=cT p++j8 0 0 f.params
def lT (p:Pg)(f:Fu):Pr:=⟨f.name,pI f.params,pL f.params,(bI f.body (pE p f) (pI f.params) 0).2,(bI f.body (pE p f) (pI f.params) 0).1++[.ret]⟩
def iT (p:Pg):Un:=⟨p.gs.map (·.init),p.ms,p.fs.map (lT p),0⟩
def yZ (g k:Nat):Ex→Prop
 | .num n=>n<4611686018427387904
 | .loc i=>i<k
 | .jv i=>i<g
 | .un o e=>o<2∧yZ g k e
 | .bin o a b=>o<13∧yZ g k a∧yZ g k b
 | _=>False
def GZ (ms:List Mx)(g k L:Nat)(p:Pl):Prop:=
 (p.param=true∧p.index<L∧p.at_=none)∨(p.param=false∧∃ m,ms[p.index]? = some m∧((p.at_=none∧m.size=0)∨∃ e,p.at_=some e∧0<m.size∧yZ g k e))
def CC (Fv:List (Nat×Nat))(ms:List Mx)(g k L M:Nat):In→Prop
 | .set t gl e=>(if gl=true then t<g else t<k)∧yZ g k e
 | .call _ t is ps=>Fv[t]? = some (is.length,ps.length)∧(∀ e∈is,yZ g k e)∧∀ p∈ps,GZ ms g k L p
 | .lock _ p=>GZ ms g k L p
 | .branch t e=>t≤M∧yZ g k e
 | .jump t=>t≤M
 | .ret=>True
theorem yZ.mono {g k k':Nat}(h:k≤k'):∀ {e:Ex},yZ g k e→yZ g k' e
 | .num _,hx=>hx
 | .loc _,hx=>Nat.lt_of_lt_of_le hx h
 | .jv _,hx=>hx
 | .un _ _,hx=>⟨hx.1,yZ.mono h hx.2⟩
 | .bin _ _ _,hx=>⟨hx.1,yZ.mono h hx.2.1,yZ.mono h hx.2.2⟩
 | .zero,hx=>hx.elim
 | .nm _,hx=>hx.elim
theorem GZ.mono {ms:List Mx}{g k k' L:Nat}(h:k≤k'){p:Pl}(hp:GZ ms g k L p):GZ ms g k' L p:=by
 rcases hp with hp | ⟨h1,m,h2,h3 | ⟨e,h3,h4,h5⟩⟩
 ·exact .inl hp
 ·exact .inr ⟨h1,m,h2,.inl h3⟩
 ·exact .inr ⟨h1,m,h2,.inr ⟨e,h3,h4,h5.mono h⟩⟩
theorem CC.mono {Fv:List (Nat×Nat)}{ms:List Mx}{g k k' L M M':Nat}(h:k≤k')(hM:M≤M'){i:In}(hi:CC Fv ms g k L M i):CC Fv ms g k' L M' i:=by
 cases i with
 | set t gl e=>
  refine⟨?_,hi.2.mono h⟩
  have:=hi.1
  split at this
  ·rename_i hg;rw[if_pos hg];exact this
  ·rename_i hg;rw[if_neg hg];omega
 | call go t is ps=>exact⟨hi.1,fun e he=>(hi.2.1 e he).mono h,fun p hp=>(hi.2.2 p hp).mono h⟩
 | lock u p=>exact GZ.mono h hi
 | branch t e=>exact⟨Nat.le_trans hi.1 hM,hi.2.mono h⟩
 | jump t=>exact Nat.le_trans hi hM
 | ret=>trivial
structure EW (g:Nat)(ms:List Mx)(fs:List (ByteArray×List Pm))(ps:List Pm)(V:List ByteArray)(E:List En)(k:Nat):Prop where
 m:∀ m∈ms,∃ j,ig E m.name=some ⟨m.name,2,j⟩∧ms[j]? = some m
 f:∀ f∈fs,∃ j,ig E f.1=some ⟨f.1,3,j⟩∧fs[j]? = some f
 p:∀ p∈ps,p.mutex=true→∃ j,ig E p.name=some ⟨p.name,5,j⟩∧j<pL ps
 v:∀ s∈V,∃ c j,ig E s=some ⟨s,c,j⟩∧((c=1∧j<g)∨(c=4∧j<k))
 o:∀ s,s∉V→s∉nG++nM++nF++nP→ig E s=none
theorem EW.add {g:Nat}{ms:List Mx}{fs:List (ByteArray×List Pm)}{ps:List Pm}{V:List ByteArray}{E:List En}{k:Nat}(h:EW g ms fs ps V E k){s:ByteArray}(hs:ig E s=none):EW g ms fs ps (V++[s]) (E++[⟨s,4,k⟩]) (k+1):=by
 have hk:∀ {t:ByteArray} {x:En},ig E t=some x→ig (E++[⟨s,4,k⟩]) t=some x:=fun {t x} ht=>by rw[di,ht]
 refine⟨fun m hm=>?_,fun f hf=>?_,fun p hp hp2=>?_,fun t ht=>?_,fun t ht ht2=>?_⟩
 ·obtain⟨j,h1,h2⟩:=h.m m hm
  exact⟨j,hk h1,h2⟩
 ·obtain⟨j,h1,h2⟩:=h.f f hf
  exact⟨j,hk h1,h2⟩
 ·obtain⟨j,h1,h2⟩:=h.p p hp hp2
  exact⟨j,hk h1,h2⟩
 ·rcases List.mem_append.1 ht with ht | ht
  ·obtain⟨c,j,h1,h2⟩:=h.v t ht
   exact⟨c,j,hk h1,by omega⟩
  ·rw[List.mem_singleton] at ht
   subst ht
   exact⟨4,k,by rw[di,hs];simp[ig],.inr ⟨rfl,by omega⟩⟩
 ·rw[List.mem_append,not_or,List.mem_singleton] at ht
  rw[di,h.o t ht.1 ht2]
  simp only[ig]
  rw[if_neg fun e=>ht.2 e.symm]
theorem EW.up {g:Nat}{ms:List Mx}{fs:List (ByteArray×List Pm)}{ps:List Pm}{V:List ByteArray}{E:List En}{k k':Nat}(h:EW g ms fs ps V E k)(hk:k≤k'):EW g ms fs ps V E k':=
 ⟨h.m,h.f,h.p,fun s hs=>by
  obtain⟨c,j,h1,h2⟩:=h.v s hs
  exact⟨c,j,h1,by omega⟩,h.o⟩
section
variable {g:Nat}{ms:List Mx}{fs:List (ByteArray×List Pm)}{ps:List Pm}{V:List ByteArray}{E:List En}{k:Nat}
theorem EW.ex (h:EW g ms fs ps V E k):∀ {d:Nat} {e:Ex},fp V d e→yZ g k (dB E e)
 | _,.num n,hx=>by simpa [fp,dB,yZ] using hx
 | _,.nm s,hx=>by
  simp only[fp] at hx
  obtain⟨c,j,h1,h2⟩:=h.v s hx
  simp only[dB,gA h1]
  rcases h2 with ⟨rfl,h2⟩ | ⟨rfl,h2⟩
  ·exact h2
  ·exact h2
 | d+1,.un o e,hx=>by
  simp only[fp] at hx
  exact⟨hx.1,h.ex hx.2⟩
 | d+1,.bin o a b,hx=>by
  simp only[fp] at hx
  exact⟨hx.1,h.ex hx.2.1,h.ex hx.2.2⟩
 | 0,.un _ _,hx=>hx.elim
 | 0,.bin _ _ _,hx=>hx.elim
 | 0,.zero,hx=>hx.elim
 | 0,.loc _,hx=>hx.elim
 | 0,.jv _,hx=>hx.elim
 | _+1,.zero,hx=>hx.elim
 | _+1,.loc _,hx=>hx.elim
 | _+1,.jv _,hx=>hx.elim
theorem EW.rf (h:EW g ms fs ps V E k){r:Rf}(hr:CL ms ps V r):GZ ms g k (pL ps) (vF E r):=by
 rcases hr with ⟨m,hm,hn,hi⟩ | ⟨p,hp,hp2,hn,hi⟩
 ·obtain⟨j,h1,h2⟩:=h.m m hm
  rw[← hn] at h1
  refine .inr ⟨by simp[vF,gA h1],m,by simpa [vF,gA h1] using h2,?_⟩
  rcases hi with ⟨h3,h4⟩ | ⟨e,h3,h4,h5⟩
  ·exact .inl ⟨by simp[vF,h3],h4⟩
  ·exact .inr ⟨dB E e,by simp[vF,h3],h4,h.ex h5⟩
 ·obtain⟨j,h1,h2⟩:=h.p p hp hp2
  rw[← hn] at h1
  exact .inl ⟨by simp[vF,gA h1],by simpa [vF,gA h1] using h2,by simp[vF,hi]⟩
theorem EW.ars (h:EW g ms fs ps V E k):∀ {gp:List Pm} {l:List Ar},iJ ms ps V gp l→(cS E l).length=pI gp∧(eH E l).length=pL gp∧(∀ e∈cS E l,yZ g k e)∧∀ p∈eH E l,GZ ms g k (pL ps) p
 | [],[],_=>by simp[cS,eH,pI,pL]
 | q::gp,a::l,hx=>by
  simp only[iJ] at hx
  obtain⟨i1,i2,i3,i4⟩:=h.ars hx.2
  cases a with
  | sr r=>
   refine⟨by simp[cS,pI,hx.1.1,i1],by simp[eH,pL,hx.1.1,i2];omega,i3,fun p hp=>?_⟩
   simp only[eH,List.mem_cons] at hp
   rcases hp with rfl | hp
   ·exact h.rf hx.1.2
   ·exact i4 p hp
  | exp e=>
   refine⟨by simp[cS,pI,hx.1.1,i1];omega,by simp[eH,pL,hx.1.1,i2],fun x hp=>?_,i4⟩
   simp only[cS,List.mem_cons] at hp
   rcases hp with rfl | hp
   ·exact h.ex hx.1.2
   ·exact i3 x hp
 | [],_::_,hx=>hx.elim
 | _::_,[],hx=>hx.elim
end
theorem uu (k:Nat)(hk:k<24):eY k∉nG++nM++nF++nP:=by
 obtain⟨h1,h2,h3,h4⟩:=qi k hk
 simp only[List.mem_append,not_or]
 exact⟨⟨⟨h1,h2⟩,h3⟩,h4⟩
def HQ (x:ByteArray×List Pm):Nat×Nat:=(pI x.2,pL x.2)
theorem xz {g:Nat}{ms:List Mx}{fs:List (ByteArray×List Pm)}{ps:List Pm} :
  (∀ s:Sm,∀ d V E k b,EW g ms fs ps V E k→dC ms fs ps d V s→k≤(dJ s E k b).2∧(∀ i∈(dJ s E k b).1,CC (fs.map HQ) ms g (dJ s E k b).2 (pL ps) (b+(dJ s E k b).1.length) i)∧EW g ms fs ps (V++dH s) (E++eW k s) (dJ s E k b).2∧8*(dJ s E k b).1.length≤dT s∧(dJ s E k b).2≤k+mP s)∧
  (∀ l:List Sm,∀ d V E k b,EW g ms fs ps V E k→cB ms fs ps d V l→k≤(bI l E k b).2∧(∀ i∈(bI l E k b).1,CC (fs.map HQ) ms g (bI l E k b).2 (pL ps) (b+(bI l E k b).1.length) i)∧8*(bI l E k b).1.length≤bz l∧(bI l E k b).2≤k+eR l):=by
 let M1:Sm→Prop:=fun s=>∀ d V E k b,EW g ms fs ps V E k→dC ms fs ps d V s→k≤(dJ s E k b).2∧(∀ i∈(dJ s E k b).1,CC (fs.map HQ) ms g (dJ s E k b).2 (pL ps) (b+(dJ s E k b).1.length) i)∧EW g ms fs ps (V++dH s) (E++eW k s) (dJ s E k b).2∧8*(dJ s E k b).1.length≤dT s∧(dJ s E k b).2≤k+mP s
 let M2:List Sm→Prop:=fun l=>∀ d V E k b,EW g ms fs ps V E k→cB ms fs ps d V l→k≤(bI l E k b).2∧(∀ i∈(bI l E k b).1,CC (fs.map HQ) ms g (bI l E k b).2 (pL ps) (b+(bI l E k b).1.length) i)∧8*(bI l E k b).1.length≤bz l∧(bI l E k b).2≤k+eR l
 have A1:∀ (s:ByteArray) (e:Ex),M1 (.gr s e):=by
  intro s e d V E k b hE hw
  simp only[dC] at hw
  obtain⟨⟨j,hj,rfl⟩,hv,he⟩:=hw
  have hn:ig E (eY j)=none:=hE.o _ hv (uu j hj)
  refine⟨by simp[dJ],fun i hi=>?_,hE.add hn,by simp[dJ,dT],by simp[dJ,mP]⟩
  simp only[dJ,List.mem_singleton] at hi ⊢
  subst hi
  exact⟨by simp,(hE.ex he).mono (by omega)⟩
 have A2:∀ (s:ByteArray) (e:Ex),M1 (.gV s e):=by
  intro s e d V E k b hE hw
  simp only[dC] at hw
  obtain⟨c,j,h1,h2⟩:=hE.v s hw.1
  refine⟨by simp[dJ],fun i hi=>?_,by simpa [dH,eW,dJ] using hE,by simp[dJ,dT],by simp[dJ,mP]⟩
  simp only[dJ,List.mem_singleton] at hi ⊢
  subst hi
  refine⟨?_,hE.ex hw.2⟩
  rw[gA h1]
  rcases h2 with ⟨rfl,h2⟩ | ⟨rfl,h2⟩
  ·simpa using h2
  ·simpa using h2
 have A3:∀ (g:Bool) (s:ByteArray) (l:List Ar),M1 (.dI g s l):=by
  intro go s l d V E k b hE hw
  simp only[dC] at hw
  obtain⟨gp,h1,h2⟩:=hw
  obtain⟨j,h3,h4⟩:=hE.f _ h1
  obtain⟨a1,a2,a3,a4⟩:=hE.ars h2
  refine⟨by simp[dJ],fun i hi=>?_,by simpa [dH,eW,dJ] using hE,by simp[dJ,dT],by simp[dJ,mP]⟩
  simp only[dJ,List.mem_singleton] at hi ⊢
  subst hi
  refine⟨?_,a3,a4⟩
  rw[gA h3,List.getElem?_map,h4]
  simp[HQ,a1,a2]
 have A4:∀ (u:Bool) (r:Rf),M1 (.dg u r):=by
  intro u r d V E k b hE hw
  simp only[dC] at hw
  refine⟨by simp[dJ],fun i hi=>?_,by simpa [dH,eW,dJ] using hE,by simp[dJ,dT],by simp[dJ,mP]⟩
  simp only[dJ,List.mem_singleton] at hi ⊢
  subst hi
  exact hE.rf hw
 have A5:∀ (e:Ex) (th el:List Sm),M2 th→M2 el→M1 (.ku e th el):=by
  intro e th el i1 i2 d V E k b hE hw
  cases d with
  | zero=>simp[dC] at hw
  | succ d=>
   simp only[dC] at hw
   obtain⟨a1,a2,a3,a4⟩:=i1 d V E k (b+1) hE hw.2.1
   by_cases hel:el.length=0
   ·refine⟨by simpa [dJ,hel] using a1,fun i hi=>?_,by simpa [dH,eW,dJ,hel] using hE.up a1,by simp[dJ,dT,hel];omega,by simp[dJ,mP,hel];omega⟩
    simp only[dJ,hel,if_true,List.mem_cons,List.length_cons] at hi ⊢
    rcases hi with rfl | hi
    ·exact⟨by omega,(hE.ex hw.1).mono a1⟩
    ·exact (a2 i hi).mono (Nat.le_refl _) (by omega)
   ·obtain⟨b1,b2,b3,b4⟩:=i2 d V E (bI th E k (b+1)).2 (b+2+(bI th E k (b+1)).1.length) (hE.up a1) hw.2.2
    refine⟨by simp only[dJ,hel,if_false];omega,fun i hi=>?_,by simpa [dH,eW,dJ,hel] using hE.up (Nat.le_trans a1 b1),by simp[dJ,dT,hel];omega,by simp only[dJ,mP,hel,if_false];omega⟩
    simp only[dJ,hel,if_false,List.mem_cons,List.mem_append,List.length_cons,List.length_append] at hi ⊢
    rcases hi with rfl | hi | rfl | hi
    ·exact⟨by omega,(hE.ex hw.1).mono (Nat.le_trans a1 b1)⟩
    ·exact (a2 i hi).mono b1 (by omega)
    ·exact Nat.le_trans (Nat.le_refl _) (by omega)
    ·exact (b2 i hi).mono (Nat.le_refl _) (by omega)
 have A6:∀ (e:Ex) (th:List Sm),M2 th→M1 (.cj e th):=by
  intro e th i1 d V E k b hE hw
  cases d with
  | zero=>simp[dC] at hw
  | succ d=>
   simp only[dC] at hw
   obtain⟨a1,a2,a3,a4⟩:=i1 d V E k (b+1) hE hw.2
   refine⟨by simpa [dJ] using a1,fun i hi=>?_,by simpa [dH,eW,dJ] using hE.up a1,by simp[dJ,dT];omega,by simp[dJ,mP];omega⟩
   simp only[dJ,List.mem_cons,List.mem_append,List.length_cons,List.length_append,List.length_nil,List.not_mem_nil,or_false] at hi ⊢
   rcases hi with rfl | hi | rfl
   ·exact⟨by omega,(hE.ex hw.1).mono a1⟩
   ·exact (a2 i hi).mono (Nat.le_refl _) (by omega)
   ·exact Nat.le_trans (Nat.le_refl _) (by omega)
 have A7:M1 .iU:=by
  intro d V E k b hE _
  refine⟨by simp[dJ],fun i hi=>?_,by simpa [dH,eW,dJ] using hE,by simp[dJ,dT],by simp[dJ,mP]⟩
  simp only[dJ,List.mem_singleton] at hi ⊢
  subst hi
  trivial
 have A0:M2 []:=by
  intro d V E k b hE _
  exact⟨by simp[bI],fun i hi=>by simp[bI] at hi,by simp[bI],by simp[bI,eR]⟩
 have A8:∀ (s:Sm) (r:List Sm),M1 s→M2 r→M2 (s::r):=by
  intro s r i1 i2 d V E k b hE hw
  simp only[cB] at hw
  obtain⟨a1,a2,a3,a4,a5⟩:=i1 d V E k b hE hw.1
  obtain⟨b1,b2,b3,b4⟩:=i2 d (V++dH s) (E++eW k s) (dJ s E k b).2 (b+(dJ s E k b).1.length) a3 hw.2
  refine⟨by simp only[bI];omega,fun i hi=>?_,by simp only[bI,bz,List.length_append];omega,by simp only[bI,eR];omega⟩
  simp only[bI,List.mem_append,List.length_append] at hi ⊢
  rcases hi with hi | hi
  ·exact (a2 i hi).mono b1 (by omega)
  ·exact (b2 i hi).mono (Nat.le_refl _) (by omega)
 exact⟨fun s=>Sm.rec (motive_1:=M1) (motive_2:=M2) A1 A2 A3 A4 A5 A6 A7 A0 A8 s,fun l=>Sm.rec_1 (motive_1:=M1) (motive_2:=M2) A1 A2 A3 A4 A5 A6 A7 A0 A8 l⟩
theorem vB:(∀ s:Sm,8*mP s≤dT s)∧(∀ l:List Sm,8*eR l≤bz l):=by
 let M1:Sm→Prop:=fun s=>8*mP s≤dT s
 let M2:List Sm→Prop:=fun l=>8*eR l≤bz l
 have A5:∀ (e:Ex) (th el:List Sm),M2 th→M2 el→M1 (.ku e th el):=fun e th el h1 h2=>by
  simp only[M1,M2,mP,dT] at *
  omega
 have A6:∀ (e:Ex) (th:List Sm),M2 th→M1 (.cj e th):=fun e th h1=>by
  simp only[M1,M2,mP,dT] at *
  omega
 have A8:∀ (s:Sm) (r:List Sm),M1 s→M2 r→M2 (s::r):=fun s r h1 h2=>by
  simp only[M1,M2,eR,bz] at *
  omega
 have A1:∀ (s:ByteArray) (e:Ex),M1 (.gr s e):=fun s e=>by simp[M1,mP,dT]
 have A2:∀ (s:ByteArray) (e:Ex),M1 (.gV s e):=fun s e=>by simp[M1,mP,dT]
 have A3:∀ (g:Bool) (s:ByteArray) (l:List Ar),M1 (.dI g s l):=fun g s l=>by simp[M1,mP,dT]
 have A4:∀ (u:Bool) (r:Rf),M1 (.dg u r):=fun u r=>by simp[M1,mP,dT]
 have A7:M1 .iU:=by simp[M1,mP,dT]
 have A0:M2 []:=by simp[M2,eR,bz]
 exact⟨fun s=>Sm.rec (motive_1:=M1) (motive_2:=M2) A1 A2 A3 A4 A5 A6 A7 A0 A8 s,fun l=>Sm.rec_1 (motive_1:=M1) (motive_2:=M2) A1 A2 A3 A4 A5 A6 A7 A0 A8 l⟩
end Go.bg
namespace Go.bg
open Go.Can
theorem oY {c:Nat}:∀ {l:List ByteArray} {i j:Nat} {s:ByteArray},l[j]? = some s→l.Nodup→ig (AU c i l) s=some ⟨s,c,i+j⟩
 | [],_,_,_,h,_=>by simp at h
 | x::r,i,0,s,h,_=>by
  simp only[List.getElem?_cons_zero,Option.some.injEq] at h
  subst h
  simp[AU,ig]
 | x::r,i,j+1,s,h,hn=>by
  simp only[List.getElem?_cons_succ] at h
  rw[List.nodup_cons] at hn
  have hx:x≠s:=fun e=>hn.1 (by rw[e];exact List.mem_of_getElem? h)
  simp only[AU,ig]
  rw[if_neg hx,oY h hn.2]
  congr 2
  omega
theorem kM (c:Nat):∀ (l:List ByteArray) (i:Nat),(AU c i l).map (·.name)=l
 | [],_=>rfl
 | s::r,i=>by simp[AU,kM c r]
theorem dR {c i:Nat}{l:List ByteArray}{s:ByteArray}(h:s∉l):ig (AU c i l) s=none:=by
 rw[oX,kM]
 exact h
theorem nN:∀ (l:List Pm) (i j:Nat),(j8 i j l).map (·.name)=l.map (·.name)
 | [],_,_=>rfl
 | p::r,i,j=>by
  simp only[j8]
  split<;>simp[nN r]
theorem oW:∀ {l:List Pm} {i j:Nat} {p:Pm},(l.map (·.name)).Nodup→p∈l→(p.mutex=true→∃ n,ig (j8 i j l) p.name=some ⟨p.name,5,n⟩∧n<j+pL l)∧(p.mutex=false→∃ n,ig (j8 i j l) p.name=some ⟨p.name,4,n⟩∧n<i+pI l)
 | [],_,_,_,_,h=>by simp at h
 | q::r,i,j,p,hn,hp=>by
  simp only[List.map_cons,List.nodup_cons] at hn
  rcases List.mem_cons.1 hp with rfl | hp
  ·refine⟨fun hm=>⟨j,by simp[j8,hm,ig],by simp[pL,hm];omega⟩,fun hm=>⟨i,by simp[j8,hm,ig],by simp[pI,hm];omega⟩⟩
  ·have hx:q.name≠p.name:=fun e=>hn.1 (by rw[e];exact List.mem_map_of_mem hp)
   cases hq:q.mutex with
   | true=>
    obtain⟨h1,h2⟩:=oW (i:=i) (j:=j+1) hn.2 hp
    refine⟨fun hm=>?_,fun hm=>?_⟩
    ·obtain⟨n,h3,h4⟩:=h1 hm
     exact⟨n,by simp[j8,hq,ig,hx,h3],by simp[pL,hq];omega⟩
    ·obtain⟨n,h3,h4⟩:=h2 hm
     exact⟨n,by simp[j8,hq,ig,hx,h3],by simp[pI,hq];omega⟩
   | false=>
    obtain⟨h1,h2⟩:=oW (i:=i+1) (j:=j) hn.2 hp
    refine⟨fun hm=>?_,fun hm=>?_⟩
    ·obtain⟨n,h3,h4⟩:=h1 hm
     exact⟨n,by simp[j8,hq,ig,hx,h3],by simp[pL,hq];omega⟩
    ·obtain⟨n,h3,h4⟩:=h2 hm
     exact⟨n,by simp[j8,hq,ig,hx,h3],by simp[pI,hq];omega⟩
theorem fZ:(∀ s∈nM,s∉nG)∧(∀ s∈nF,s∉nG∧s∉nM)∧(∀ s∈nP,s∉nG∧s∉nM∧s∉nF)∧nG.Nodup∧nM.Nodup∧nF.Nodup∧nP.Nodup:=by
 have h1:∀ s∈nM,∀ t∈nG,s≠t:=by decide
 have h2:∀ s∈nF,∀ t∈nG++nM,s≠t:=by decide
 have h3:∀ s∈nP,∀ t∈nG++nM++nF,s≠t:=by decide
 refine⟨fun s hs hx=>h1 s hs s hx rfl,fun s hs=>⟨fun hx=>h2 s hs s (by simp[hx]) rfl,fun hx=>h2 s hs s (by simp[hx]) rfl⟩,fun s hs=>⟨fun hx=>h3 s hs s (by simp[hx]) rfl,fun hx=>h3 s hs s (by simp[hx]) rfl,fun hx=>h3 s hs s (by simp[hx]) rfl⟩,?_,?_,?_,?_⟩<;>
  simp only[List.Nodup,nG,nM,nF,nP,List.pairwise_cons,List.Pairwise.nil,and_true]<;>decide
theorem oB {l:List ByteArray}{k:Nat}{s:ByteArray}(h:s∈l.take k):s∈l:=List.mem_of_mem_take h
theorem iP {α β:Type}{l:List α}(f:α→β){a:α}(h:a∈l):∃ j:Nat,l[j]? = some a∧(l.map f)[j]? = some (f a):=by
 obtain⟨j,hj⟩:=List.mem_iff_getElem?.1 h
 exact⟨j,hj,by rw[List.getElem?_map,hj];rfl⟩
section
variable {p:Pg}(h:jJ p)
include h
theorem jJ.sub:(∀ s∈p.gs.map (·.name),s∈nG)∧(∀ s∈p.ms.map (·.name),s∈nM)∧(∀ s∈p.fs.map (·.name),s∈nF)∧(∀ f∈p.fs,∀ s∈f.params.map (·.name),s∈nP):=by
 obtain⟨k1,_,e1⟩:=h.gn
 obtain⟨k2,_,_,e2⟩:=h.mn
 obtain⟨k3,_,_,e3⟩:=h.fn
 refine⟨fun s hs=>?_,fun s hs=>?_,fun s hs=>?_,fun f hf s hs=>?_⟩
 ·rw[e1] at hs;exact oB hs
 ·rw[e2] at hs;exact oB hs
 ·rw[e3] at hs;exact oB hs
 ·obtain⟨k,_,e⟩:=h.pn f hf
  rw[e,List.mem_reverse] at hs
  exact oB hs
theorem jJ.nd:(p.gs.map (·.name)).Nodup∧(p.ms.map (·.name)).Nodup∧(p.fs.map (·.name)).Nodup∧∀ f∈p.fs,(f.params.map (·.name)).Nodup:=by
 obtain⟨_,_,_,n1,n2,n3,n4⟩:=fZ
 obtain⟨k1,_,e1⟩:=h.gn
 obtain⟨k2,_,_,e2⟩:=h.mn
 obtain⟨k3,_,_,e3⟩:=h.fn
 refine⟨?_,?_,?_,fun f hf=>?_⟩
 ·rw[e1];exact n1.sublist (List.take_sublist _ _)
 ·rw[e2];exact n2.sublist (List.take_sublist _ _)
 ·rw[e3];exact n3.sublist (List.take_sublist _ _)
 ·obtain⟨k,_,e⟩:=h.pn f hf
  rw[e]
  exact List.pairwise_reverse.2 ((n4.sublist (List.take_sublist _ _)).imp fun h=>Ne.symm h)
theorem jJ.dec:(∀ g∈p.gs,∃ j,ig (cT p) g.name=some ⟨g.name,1,j⟩∧j<p.gs.length)∧(∀ m∈p.ms,∃ j,ig (cT p) m.name=some ⟨m.name,2,j⟩∧p.ms[j]? = some m)∧
  (∀ f∈p.fs,∃ j,ig (cT p) f.name=some ⟨f.name,3,j⟩∧p.fs[j]? = some f)∧(∀ s,s∉nG++nM++nF→ig (cT p) s=none):=by
 obtain⟨a1,a2,_,_⟩:=fZ
 obtain⟨s1,s2,s3,_⟩:=h.sub
 obtain⟨d1,d2,d3,_⟩:=h.nd
 refine⟨fun g hg=>?_,fun m hm=>?_,fun f hf=>?_,fun s hs=>?_⟩
 ·obtain⟨j,h1,h2⟩:=iP (·.name) hg
  refine⟨j,?_,(List.getElem?_eq_some_iff.1 h1).1⟩
  rw[cT,di,di,oY h2 d1]
  simp
 ·obtain⟨j,h1,h2⟩:=iP (·.name) hm
  refine⟨j,?_,h1⟩
  have hmem:=s2 _ (List.mem_map_of_mem (f:=(·.name)) hm)
  rw[cT,di,di,dR (fun hx=>a1 _ hmem (s1 _ hx)),oY h2 d2]
  simp
 ·obtain⟨j,h1,h2⟩:=iP (·.name) hf
  refine⟨j,?_,h1⟩
  have hmem:=s3 _ (List.mem_map_of_mem (f:=(·.name)) hf)
  rw[cT,di,di,dR (fun hx=>(a2 _ hmem).1 (s1 _ hx)),dR (fun hx=>(a2 _ hmem).2 (s2 _ hx)),oY h2 d3]
  simp
 ·simp only[List.mem_append,not_or] at hs
  rw[cT,di,di,dR (fun hx=>hs.1.1 (s1 _ hx)),dR (fun hx=>hs.1.2 (s2 _ hx)),dR (fun hx=>hs.2 (s3 _ hx))]
theorem jJ.ew {f:Fu}(hf:f∈p.fs):EW p.gs.length p.ms (p.fs.map fun f=>(f.name,f.params)) f.params (iY p.gs f.params) (pE p f) (pI f.params):=by
 obtain⟨d1,d2,d3,d4⟩:=h.dec
 obtain⟨_,_,a3,_⟩:=fZ
 obtain⟨_,_,_,s4⟩:=h.sub
 obtain⟨_,_,_,n4⟩:=h.nd
 have hpn:∀ q∈f.params,ig (cT p) q.name=none:=fun q hq=>by
  have:=s4 f hf _ (List.mem_map_of_mem (f:=(·.name)) hq)
  have:=a3 _ this
  exact d4 _ (by simp only[List.mem_append,not_or];exact⟨⟨this.1,this.2.1⟩,this.2.2⟩)
 refine⟨fun m hm=>?_,fun x hx=>?_,fun q hq hq2=>?_,fun s hs=>?_,fun s hs hs2=>?_⟩
 ·obtain⟨j,h1,h2⟩:=d2 m hm
  exact⟨j,by rw[pE,di,h1],h2⟩
 ·rw[List.mem_map] at hx
  obtain⟨f',hf',rfl⟩:=hx
  obtain⟨j,h1,h2⟩:=d3 f' hf'
  exact⟨j,by rw[pE,di,h1],by rw[List.getElem?_map,h2];rfl⟩
 ·obtain⟨n,h1,h2⟩:=(oW (i:=0) (j:=0) (n4 f hf) hq).1 hq2
  exact⟨n,by rw[pE,di,hpn q hq];exact h1,by omega⟩
 ·simp only[iY,List.mem_append,List.mem_flatMap,List.mem_map] at hs
  rcases hs with ⟨g,hg,rfl⟩ | ⟨q,hq,hs⟩
  ·obtain⟨j,h1,h2⟩:=d1 g hg
   exact⟨1,j,by rw[pE,di,h1],.inl ⟨rfl,h2⟩⟩
  ·cases hm:q.mutex with
   | true=>simp[hm] at hs
   | false=>
    simp[hm] at hs
    subst hs
    obtain⟨n,h1,h2⟩:=(oW (i:=0) (j:=0) (n4 f hf) hq).2 hm
    exact⟨4,n,by rw[pE,di,hpn q hq];exact h1,.inr ⟨rfl,by omega⟩⟩
 ·have hs3:=hs2
  simp only[List.mem_append,not_or] at hs3
  rw[pE,di,d4 s (by simp only[List.mem_append,not_or];exact hs3.1)]
  rw[oX,nN]
  exact fun hx=>hs3.2 (s4 f hf _ hx)
end
theorem pIL:∀ l:List Pm,pI l+pL l=l.length
 | []=>rfl
 | p::r=>by
  have:=pIL r
  simp only[pI,pL,List.length_cons]
  split<;>omega
structure ox (u:Un):Prop where
 np:1≤u.ps.length∧u.ps.length≤4
 nm:1≤u.ms.length∧u.ms.length≤4
 ng:u.gs.length≤2
 gi:∀ g∈u.gs,-2≤g∧g≤2
 mz:∀ m∈u.ms,m.size≤3∧(m.re=true→m.size=0)
 main:u.main=0
 p0:∀ q,u.ps[0]? = some q→q.ints=0∧q.aE=0
 pr:∀ q∈u.ps,q.ints≤2∧q.aE≤2∧q.ints≤q.locals∧q.locals≤200∧q.code.length≤145
 pc:∀ q∈u.ps,(∃ c,q.code=c++[.ret])∧∀ i∈q.code,CC (u.ps.map fun q=>(q.ints,q.aE)) u.ms u.gs.length q.locals q.aE (q.code.length-1) i
theorem jJ.unit {p:Pg}(h:jJ p)(hw:∀ f∈p.fs,bz f.body≤1152)(hp:∀ f∈p.fs,f.params.length≤2):ox (iT p):=by
 obtain⟨k1,hk1,e1⟩:=h.gn
 obtain⟨k2,_,hk2,e2⟩:=h.mn
 obtain⟨k3,_,hk3,e3⟩:=h.fn
 have l1:=congrArg List.length e1
 have l2:=congrArg List.length e2
 have l3:=congrArg List.length e3
 simp[nG] at l1
 simp[nM] at l2
 simp[nF] at l3
 have hs:∀ f∈p.fs,pI f.params≤(bI f.body (pE p f) (pI f.params) 0).2∧(∀ i∈(bI f.body (pE p f) (pI f.params) 0).1,CC ((p.fs.map fun f=>(f.name,f.params)).map HQ) p.ms p.gs.length (bI f.body (pE p f) (pI f.params) 0).2 (pL f.params) (0+(bI f.body (pE p f) (pI f.params) 0).1.length) i)∧8*(bI f.body (pE p f) (pI f.params) 0).1.length≤bz f.body∧(bI f.body (pE p f) (pI f.params) 0).2≤pI f.params+eR f.body:=
  fun f hf=>xz.2 f.body 2 _ _ _ 0 (h.ew hf) (h.bd f hf)
 have hsg:(iT p).ps.map (fun q=>(q.ints,q.aE))=(p.fs.map fun f=>(f.name,f.params)).map HQ:=by
  simp only[iT,List.map_map]
  rfl
 refine⟨by simp only[iT,List.length_map];omega,by simp only[iT];omega,by simp only[iT,List.length_map];omega,fun g hg=>?_,h.mz,rfl,fun q hq=>?_,fun q hq=>?_,fun q hq=>?_⟩
 ·simp only[iT,List.mem_map] at hg
  obtain⟨x,hx,rfl⟩:=hg
  exact h.gi x hx
 ·simp only[iT,List.getElem?_map,Option.map_eq_some_iff] at hq
  obtain⟨f,hf,rfl⟩:=hq
  simp[lT,h.f0 f hf,pI,pL]
 ·simp only[iT,List.mem_map] at hq
  obtain⟨f,hf,rfl⟩:=hq
  obtain⟨b1,b2,b3,b4⟩:=hs f hf
  have b5:=vB.2 f.body
  have b6:=hw f hf
  have b7:=pIL f.params
  have b8:=hp f hf
  refine⟨by simp only[lT];omega,by simp only[lT];omega,b1,by simp only[lT];omega,by simp only[lT,List.length_append,List.length_singleton];omega⟩
 ·rw[hsg]
  simp only[iT,List.mem_map] at hq
  obtain⟨f,hf,rfl⟩:=hq
  obtain⟨b1,b2,b3,b4⟩:=hs f hf
  refine⟨⟨_,rfl⟩,fun i hi=>?_⟩
  simp only[lT,List.mem_append,List.mem_singleton] at hi ⊢
  rcases hi with hi | rfl
  ·have hx:=CC.mono (Nat.le_refl _) (M':=(bI f.body (pE p f) (pI f.params) 0).1.length) (by omega) (b2 i hi)
   simpa [iT] using hx
  ·trivial
end Go.bg
