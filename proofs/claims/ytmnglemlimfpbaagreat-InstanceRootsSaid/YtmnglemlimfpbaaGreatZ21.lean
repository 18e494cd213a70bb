/- What Lex accepts, and the text of a program as a plain function. No function of the program is mentioned here. -/
import Derived.Test.YtmnglemlimfpbaaGreatZ20
namespace Go.bg
open Go.Can
def gY (c:UInt8):Bool:=c == 32 || c == 9 || c == 10 || c == 13
def isLet (c:UInt8):Bool:=(decide (97≤c.toNat) && decide (c.toNat≤122)) || (decide (65≤c.toNat) && decide (c.toNat≤90)) || decide (c.toNat=95)
def cR (c:UInt8):Bool:=decide (48≤c.toNat) && decide (c.toNat≤57)
def fc (c:UInt8):Bool:=isLet c || cR c
def pP:List (List UInt8):=[[118,97,114],[109,117,116,101,120],[114,109,117,116,101,120],[102,117,110,99],[108,111,99,107],[117,110,108,111,99,107],[103,111],[105,102],[101,108,115,101],[119,104,105,108,101],[114,101,116,117,114,110]]
def kY:List UInt8:=[40,41,123,125,91,93,44,59,61,43,45,42,47,37,60,62,33]
def pH:List (UInt8×UInt8):=[(60,61),(62,61),(61,61),(33,61),(38,38),(124,124)]
def kj (w:List UInt8):Nat:=w.foldl (fun n c=>10*n+(c.toNat-48)) 0
def qV:List UInt8→Nat
 | a::b::_=>if (a,b)∈pH then 2 else if a∈kY then 1 else 0
 | [a]=>if a∈kY then 1 else 0
 | []=>0
inductive Lx:List UInt8→Nat→Prop
 | nil (n:Nat):Lx [] n
 | sp {c:UInt8} {r:List UInt8} {n:Nat}:gY c=true→Lx r n→Lx (c::r) n
 | nm {c:UInt8} {r:List UInt8} {n:Nat}:isLet c=true→(((c::r).takeWhile fc).length≤16∨(c::r).takeWhile fc∈pP)→Lx ((c::r).dropWhile fc) n→Lx (c::r) (n+1)
 | num {c:UInt8} {r:List UInt8} {n:Nat}:cR c=true→kj ((c::r).takeWhile cR)<9223372036854775808→Lx ((c::r).dropWhile cR) n→Lx (c::r) (n+1)
 | sg {c:UInt8} {r:List UInt8} {n:Nat}:isLet c=false→cR c=false→gY c=false→(c=47→r.head?≠some 47)→0<qV (c::r)→Lx ((c::r).drop (qV (c::r))) n→Lx (c::r) (n+1)
theorem Lx.mono {r:List UInt8}{n m:Nat}(h:Lx r n)(hm:n≤m):Lx r m:=by
 induction h generalizing m with
 | nil=>exact .nil _
 | sp a _ ih=>exact .sp a (ih hm)
 | nm a b _ ih=>
  obtain⟨k,rfl⟩:∃ k,m=k+1:=⟨m-1,by omega⟩
  exact .nm a b (ih (by omega))
 | num a b _ ih=>
  obtain⟨k,rfl⟩:∃ k,m=k+1:=⟨m-1,by omega⟩
  exact .num a b (ih (by omega))
 | sg a b c d e _ ih=>
  obtain⟨k,rfl⟩:∃ k,m=k+1:=⟨m-1,by omega⟩
  exact .sg a b c d e (ih (by omega))
def Stop (r:List UInt8):Prop:=∀ c,r.head? = some c→fc c=false∧c≠61∧c≠47
theorem jm {p:UInt8→Bool}:∀ (w r:List UInt8),(w.all p=true)→(∀ c,r.head? = some c→p c=false)→(w++r).takeWhile p=w∧(w++r).dropWhile p=r
 | [],r,_,h=>by
  cases r with
  | nil=>exact⟨rfl,rfl⟩
  | cons c r=>
   have:=h c rfl
   simp[this]
 | a::w,r,ha,h=>by
  simp only[List.all_cons,Bool.and_eq_true] at ha
  obtain⟨h1,h2⟩:=jm w r ha.2 h
  constructor
  ·rw[List.cons_append,List.takeWhile_cons,if_pos ha.1,h1]
  ·rw[List.cons_append,List.dropWhile_cons,if_pos ha.1,h2]
def GY (s:List UInt8)(k:Nat):Prop:=∀ r n,Stop r→Lx r n→Lx (s++r) (n+k)
theorem GY.name {s:List UInt8}(h0:∃ c t,s=c::t∧isLet c=true)(h1:s.all fc=true)(h2:s.length≤16∨s∈pP):GY s 1:=by
 intro r n hr hl
 obtain⟨c,t,rfl,hc⟩:=h0
 obtain⟨e1,e2⟩:=jm (c::t) r h1 fun x hx=>(hr x hx).1
 rw[List.cons_append] at e1 e2 ⊢
 exact Lx.nm hc (by rw[e1];exact h2) (by rw[e2];exact hl)
theorem GY.num {s:List UInt8}(h0:s≠[])(h1:s.all cR=true)(h2:kj s<9223372036854775808):GY s 1:=by
 intro r n hr hl
 cases s with
 | nil=>exact absurd rfl h0
 | cons c t=>
  have hd:∀ x,r.head? = some x→cR x=false:=fun x hx=>by
   have:=(hr x hx).1
   simp only[fc,Bool.or_eq_false_iff] at this
   exact this.2
  obtain⟨e1,e2⟩:=jm (c::t) r h1 hd
  simp only[List.all_cons,Bool.and_eq_true] at h1
  rw[List.cons_append] at e1 e2 ⊢
  exact Lx.num h1.1 (by rw[e1];exact h2) (by rw[e2];exact hl)
theorem Lx.one {c:UInt8}{r:List UInt8}{n:Nat}(hc:c∈kY)(hr:∀ x,r.head? = some x→x≠61∧x≠47)(hl:Lx r n):Lx (c::r) (n+1):=by
 have hx:(∀ b,(c,b)∈pH→b=61):=by
  intro b hb
  simp only[kY,List.mem_cons,List.not_mem_nil,or_false] at hc
  rcases hc with rfl | rfl | rfl | rfl | rfl | rfl | rfl | rfl | rfl | rfl | rfl | rfl | rfl | rfl | rfl | rfl | rfl<;>simp_all [pH]
 have hs:qV (c::r)=1:=by
  cases r with
  | nil=>simp[qV,hc]
  | cons b t=>
   have hb:(c,b)∉pH:=fun h=>(hr b rfl).1 (hx b h)
   simp[qV,hc,hb]
 have h3:isLet c=false∧cR c=false∧gY c=false:=by
  simp only[kY,List.mem_cons,List.not_mem_nil,or_false] at hc
  rcases hc with rfl | rfl | rfl | rfl | rfl | rfl | rfl | rfl | rfl | rfl | rfl | rfl | rfl | rfl | rfl | rfl | rfl<;>decide
 refine Lx.sg h3.1 h3.2.1 h3.2.2 (fun _ h=>(hr 47 h).2 rfl) (by rw[hs];exact Nat.one_pos) ?_
 rw[hs]
 exact hl
theorem Lx.vO {c:UInt8}{r:List UInt8}{n:Nat}(hc:c∈kY)(h:c≠60∧c≠62∧c≠61∧c≠33∧c≠47)(hl:Lx r n):Lx (c::r) (n+1):=by
 have hs:qV (c::r)=1:=by
  cases r with
  | nil=>simp[qV,hc]
  | cons b t=>
   have hb:(c,b)∉pH:=by
    simp only[kY,List.mem_cons,List.not_mem_nil,or_false] at hc
    rcases hc with rfl | rfl | rfl | rfl | rfl | rfl | rfl | rfl | rfl | rfl | rfl | rfl | rfl | rfl | rfl | rfl | rfl<;>simp_all [pH]
   simp[qV,hc,hb]
 have h3:isLet c=false∧cR c=false∧gY c=false:=by
  simp only[kY,List.mem_cons,List.not_mem_nil,or_false] at hc
  rcases hc with rfl | rfl | rfl | rfl | rfl | rfl | rfl | rfl | rfl | rfl | rfl | rfl | rfl | rfl | rfl | rfl | rfl<;>decide
 refine Lx.sg h3.1 h3.2.1 h3.2.2 (fun e=>absurd e h.2.2.2.2) (by rw[hs];exact Nat.one_pos) ?_
 rw[hs]
 exact hl
theorem Lx.two {a b:UInt8}{r:List UInt8}{n:Nat}(hc:(a,b)∈pH)(hl:Lx r n):Lx (a::b::r) (n+1):=by
 have hs:qV (a::b::r)=2:=by simp[qV,hc]
 have h3:isLet a=false∧cR a=false∧gY a=false∧a≠47:=by
  simp only[pH,List.mem_cons,List.not_mem_nil,or_false,Prod.mk.injEq] at hc
  rcases hc with ⟨rfl,_⟩ | ⟨rfl,_⟩ | ⟨rfl,_⟩ | ⟨rfl,_⟩ | ⟨rfl,_⟩ | ⟨rfl,_⟩<;>decide
 refine Lx.sg h3.1 h3.2.1 h3.2.2.1 (fun e=>absurd e h3.2.2.2) (by rw[hs];omega) ?_
 rw[hs]
 exact hl
theorem Stop.cons {c:UInt8}(r:List UInt8)(h:fc c=false∧c≠61∧c≠47):Stop (c::r):=by
 intro x hx
 simp only[List.head?_cons,Option.some.injEq] at hx
 exact hx ▸ h
theorem Lx.inv {c:UInt8}{r:List UInt8}{n:Nat}(h:Lx (c::r) n)(hs:gY c=false):∃ m,n=m+1∧
  ((isLet c=true∧(((c::r).takeWhile fc).length≤16∨(c::r).takeWhile fc∈pP)∧Lx ((c::r).dropWhile fc) m)∨
   (isLet c=false∧cR c=true∧kj ((c::r).takeWhile cR)<9223372036854775808∧Lx ((c::r).dropWhile cR) m)∨
   (isLet c=false∧cR c=false∧(c=47→r.head?≠some 47)∧0<qV (c::r)∧Lx ((c::r).drop (qV (c::r))) m)):=by
 cases h with
 | sp a _=>rw[a] at hs;cases hs
 | nm a b d=>exact⟨_,rfl,.inl ⟨a,b,d⟩⟩
 | num a b d=>
  have hn:isLet c=false:=by
   simp only[cR,Bool.and_eq_true,decide_eq_true_eq] at a
   simp only[isLet,Bool.or_eq_false_iff,Bool.and_eq_false_iff,decide_eq_false_iff_not]
   omega
  exact⟨_,rfl,.inr (.inl ⟨hn,a,b,d⟩)⟩
 | sg a b d e f g=>exact⟨_,rfl,.inr (.inr ⟨a,b,e,f,g⟩)⟩
def pC (l:List UInt8):Nat:=(l.takeWhile gY).length
theorem Lx.skip {r:List UInt8}{n:Nat}(h:Lx r n):Lx (r.drop (pC r)) n:=by
 induction h with
 | nil n=>exact .nil n
 | @sp c r n a b ih=>
  have:pC (c::r)=pC r+1:=by simp[pC,a]
  rw[this,List.drop_succ_cons]
  exact ih
 | @nm c r n a b d _=>
  have hs:gY c=false:=by
   simp only[isLet,Bool.or_eq_true,Bool.and_eq_true,decide_eq_true_eq] at a
   cases h:gY c with
   | false=>rfl
   | true=>
    simp only[gY,Bool.or_eq_true,beq_iff_eq] at h
    rcases h with ((rfl | rfl) | rfl) | rfl<;>revert a<;>decide
  have:pC (c::r)=0:=by simp[pC,hs]
  rw[this]
  exact .nm a b d
 | @num c r n a b d _=>
  have hs:gY c=false:=by
   simp only[cR,Bool.and_eq_true,decide_eq_true_eq] at a
   cases h:gY c with
   | false=>rfl
   | true=>
    simp only[gY,Bool.or_eq_true,beq_iff_eq] at h
    rcases h with ((rfl | rfl) | rfl) | rfl<;>revert a<;>decide
  have:pC (c::r)=0:=by simp[pC,hs]
  rw[this]
  exact .num a b d
 | @sg c r n a b d e f g _=>
  have:pC (c::r)=0:=by simp[pC,d]
  rw[this]
  exact .sg a b d e f g
theorem xy {l:List UInt8}{c:UInt8}(h:(l.drop (pC l)).head? = some c):gY c=false:=by
 unfold pC at h
 induction l with
 | nil=>simp at h
 | cons a r ih=>
  cases ha:gY a with
  | true=>
   simp only[List.takeWhile_cons,ha,if_true,List.length_cons,List.drop_succ_cons] at h
   exact ih h
  | false=>
   simp only[List.takeWhile_cons,ha] at h
   simp at h
   rw[← h];exact ha
def bs (s:ByteArray):List UInt8:=s.data.toList
theorem fT (a b:ByteArray):bs (a++b)=bs a++bs b:=by simp[bs,ByteArray.data_append]
theorem bs_mk (l:List UInt8):bs ⟨l.toArray⟩=l:=by simp[bs]
def jx (n:Nat):ByteArray:=if n<10 then dK (48+n) else jx (n / 10)++dK (48+n % 10)
termination_by n
decreasing_by omega
def j9 (n:Int):ByteArray:=if n<0 then ⟨#[45]⟩++jx (-n).toNat else jx n.toNat
def lZ (op:Nat):Nat:=if op=17 then 0 else if op=16 then 1 else if 10≤op∧op≤15 then 2 else if op=8∨op=9 then 3 else if 5≤op∧op≤7 then 4 else if op=3∨op=4 then 5 else 6
def Ex.kF:Ex→Nat
 | .zero=>0
 | .num _=>1
 | .nm _=>2
 | .un k _=>3+k
 | .bin k _ _=>5+k
 | .loc _=>18
 | .jv _=>19
def Ex.st (e:Ex):Nat:=lZ e.kF
def qK (b:Bool)(x:ByteArray):ByteArray:=if b=true then ⟨#[40]⟩++x++⟨#[41]⟩ else x
def z8:List ByteArray:=[⟨#[42]⟩,⟨#[47]⟩,⟨#[37]⟩,⟨#[43]⟩,⟨#[45]⟩,⟨#[60]⟩,⟨#[60,61]⟩,⟨#[62]⟩,⟨#[62,61]⟩,⟨#[61,61]⟩,⟨#[33,61]⟩,⟨#[38,38]⟩,⟨#[124,124]⟩]
def ij:Ex→ByteArray
 | .num n=>jx n
 | .nm s=>s
 | .un k e=>(if k=0 then ⟨#[45]⟩ else ⟨#[33]⟩)++qK (decide (e.st<5)) (ij e)
 | .bin k a b=>qK (decide (a.st<lZ (5+k))) (ij a)++⟨#[32]⟩++z8.getD k ⟨#[]⟩++⟨#[32]⟩++qK (decide (b.st≤lZ (5+k))) (ij b)
 | _=>⟨#[]⟩
def zq (r:Rf):ByteArray:=match r.index with
 | none=>r.name
 | some e=>r.name++⟨#[91]⟩++ij e++⟨#[93]⟩
def J4:Ar→ByteArray
 | .sr r=>⟨#[109,117,116,101,120,32]⟩++zq r
 | .exp e=>ij e
def tj:Bool→List Ar→ByteArray
 | _,[]=>⟨#[]⟩
 | first,a::r=>(if first=true then ⟨#[]⟩ else ⟨#[44,32]⟩)++J4 a++tj false r
def qO (l:List Ar):ByteArray:=⟨#[40]⟩++tj true l++⟨#[41]⟩
def xo:ByteArray:=⟨#[118,97,114,32]⟩
def Da:ByteArray:=⟨#[32,61,32]⟩
def iv:ByteArray:=⟨#[59]⟩
def Je:ByteArray:=⟨#[103,111,32]⟩
def uB:ByteArray:=⟨#[108,111,99,107,32]⟩
def mN:ByteArray:=⟨#[117,110,108,111,99,107,32]⟩
def Jd:ByteArray:=⟨#[105,102,32]⟩
def vr:ByteArray:=⟨#[119,104,105,108,101,32]⟩
def oE:ByteArray:=⟨#[32,123,10]⟩
def jW:ByteArray:=⟨#[125]⟩
def xq:ByteArray:=⟨#[32,101,108,115,101,32,123,10]⟩
def FM:ByteArray:=⟨#[114,101,116,117,114,110,59]⟩
def tNl:ByteArray:=⟨#[10]⟩
def nH:ByteArray:=⟨#[9]⟩
mutual
def jY (tabs:ByteArray):Sm→ByteArray
 | .gr s e=>xo++s++Da++ij e++iv
 | .gV s e=>s++Da++ij e++iv
 | .dI g s l=>(if g=true then Je++s else s)++qO l++iv
 | .dg u r=>(if u=true then mN else uB)++zq r++iv
 | .ku e th el=>Jd++ij e++oE++ic (tabs++nH) th++tabs++jW++(if el.length=0 then ⟨#[]⟩ else xq++ic (tabs++nH) el++tabs++jW)
 | .cj e th=>vr++ij e++oE++ic (tabs++nH) th++tabs++jW
 | .iU=>FM
def ic (tabs:ByteArray):List Sm→ByteArray
 | []=>⟨#[]⟩
 | s::r=>tabs++jY tabs s++tNl++ic tabs r
end
def Hi (g:Gl):ByteArray:=xo++g.name++(if g.init=0 then ⟨#[]⟩ else Da++j9 g.init)++⟨#[59,10]⟩
def Gg (m:Mx):ByteArray:=(if m.re=true then ⟨#[114]⟩ else ⟨#[]⟩)++⟨#[109,117,116,101,120,32]⟩++m.name++(if m.size=0 then ⟨#[]⟩ else ⟨#[91]⟩++j9 m.size++⟨#[93]⟩)++⟨#[59,10]⟩
def r8:Bool→List Pm→ByteArray
 | _,[]=>⟨#[]⟩
 | first,p::r=>(if first=true then ⟨#[]⟩ else ⟨#[44,32]⟩)++(if p.mutex=true then ⟨#[109,117,116,101,120,32]⟩ else ⟨#[]⟩)++p.name++r8 false r
def CH (f:Fu):ByteArray:=⟨#[102,117,110,99,32]⟩++f.name++⟨#[40]⟩++r8 true f.params++⟨#[41,32,123,10]⟩++ic nH f.body++⟨#[125,10]⟩
def jf {α:Type}(f:α→ByteArray):List α→ByteArray
 | []=>⟨#[]⟩
 | a::r=>f a++jf f r
def BS (p:Pg):ByteArray:=jf Hi p.gs++jf Gg p.ms++jf CH p.fs
def cY (s:ByteArray):Prop:=(∃ c t,bs s=c::t∧isLet c=true)∧(bs s).all fc=true∧(bs s).length≤16
def bR (S:List UInt8→Prop)(s:ByteArray)(k b:Nat):Prop:=(bs s).length≤b∧∀ r n,S r→Lx r n→Lx (bs s++r) (n+k)
def Any (_:List UInt8):Prop:=True
theorem bR.app {S S':List UInt8→Prop}{s s':ByteArray}{k k' b b':Nat}(h:bR S s k b)(h':bR S' s' k' b')(hS:∀ r,S' r→S (bs s'++r)):bR S' (s++s') (k' + k) (b+b'):=by
 refine⟨by rw[fT,List.length_append];have:=h.1;have:=h'.1;omega,fun r n hr hl=>?_⟩
 rw[fT,List.append_assoc,← Nat.add_assoc]
 exact h.2 _ _ (hS r hr) (h'.2 r n hr hl)
theorem bR.mono {S:List UInt8→Prop}{s:ByteArray}{k k' b b':Nat}(h:bR S s k b)(hk:k≤k')(hb:b≤b'):bR S s k' b':=
 ⟨Nat.le_trans h.1 hb,fun r n hr hl=>(h.2 r n hr hl).mono (by omega)⟩
theorem bR.any {s:ByteArray}{k b:Nat}(h:bR Any s k b)(S:List UInt8→Prop):bR S s k b:=⟨h.1,fun r n _ hl=>h.2 r n trivial hl⟩
theorem bR.nil (S:List UInt8→Prop):bR S ⟨#[]⟩ 0 0:=⟨Nat.le_refl _,fun _ _ _ hl=>hl⟩
theorem bR.nm {s:ByteArray}(h:cY s):bR Stop s 1 16:=⟨h.2.2,GY.name h.1 h.2.1 (.inl h.2.2)⟩
theorem bR.word {l:List UInt8}(h0:∃ c t,l=c::t∧isLet c=true)(h1:l.all fc=true)(h2:l.length≤16)(s:ByteArray)(hs:bs s=l++[32]):bR Any s 1 17:=by
 refine⟨by rw[hs];simp;omega,fun r n _ hl=>?_⟩
 rw[hs,List.append_assoc]
 exact GY.name h0 h1 (.inl h2) _ _ (Stop.cons _ (by decide)) (Lx.sp (by decide) hl)
theorem bR.sign {c:UInt8}(hc:c∈kY)(h:c≠60∧c≠62∧c≠61∧c≠33∧c≠47):bR Any ⟨#[c]⟩ 1 1:=⟨Nat.le_refl _,fun _ _ _ hl=>Lx.vO hc h hl⟩
theorem ph (n:Nat):bs (dK n)=[UInt8.ofNat n]:=rfl
theorem wD:∀ n:Nat,(bs (jx n)).all cR=true∧bs (jx n)≠[]∧kj (bs (jx n))=n∧∀ b,n<10 ^ (b+1)→(bs (jx n)).length≤b+1:=by
 intro n
 induction n using Nat.strongRecOn with
 | _ n ih=>
 have hd:∀ k,k<10→cR (UInt8.ofNat (48+k))=true∧(UInt8.ofNat (48+k)).toNat-48=k:=by decide
 rw[jx]
 split
 ·rename_i h
  obtain⟨a,b⟩:=hd n h
  refine⟨by rw[ph];simp only[List.all_cons,List.all_nil,a,Bool.and_self],by rw[ph];simp,by rw[ph];simp only[kj,List.foldl_cons,List.foldl_nil,b];omega,fun b hb=>by rw[ph];simp⟩
 ·rename_i h
  obtain⟨a,b⟩:=hd (n % 10) (by omega)
  obtain⟨i1,i2,i3,i4⟩:=ih (n / 10) (by omega)
  rw[fT,ph]
  refine⟨by rw[List.all_append,i1];simp only[List.all_cons,List.all_nil,a,Bool.and_self],by simp,?_,fun b hb=>?_⟩
  ·unfold kj at i3 ⊢
   rw[List.foldl_append,i3]
   simp only[List.foldl_cons,List.foldl_nil,b]
   omega
  ·cases b with
   | zero=>omega
   | succ b=>
    have:=i4 b (by rw[Nat.pow_succ] at hb;omega)
    simp
    omega
theorem bR.dig {n:Nat}(h:n<9223372036854775808):bR Stop (jx n) 1 19:=by
 obtain⟨i1,i2,i3,i4⟩:=wD n
 exact⟨i4 18 (by omega),GY.num i2 i1 (by rw[i3];exact h)⟩
def fp (ns:List ByteArray):Nat→Ex→Prop
 | _,.num n=>n<4611686018427387904
 | _,.nm s=>s∈ns
 | d+1,.un k e=>k<2∧fp ns d e
 | d+1,.bin k a b=>k<13∧fp ns d a∧fp ns d b
 | _,_=>False
def qw:Nat→Nat
 | 0=>1
 | d+1=>2*qw d+5
def Hd (s:ByteArray):Prop:=∃ c t,bs s=c::t∧c≠61∧c≠47
theorem Hd.app {s:ByteArray}(h:Hd s)(t:ByteArray):Hd (s++t):=by
 obtain⟨c,u,h1,h2⟩:=h
 exact⟨c,u++bs t,by rw[fT,h1,List.cons_append],h2⟩
theorem Hd.nm {s:ByteArray}(h:cY s):Hd s:=by
 obtain⟨⟨c,t,h1,h2⟩,_⟩:=h
 refine⟨c,t,h1,?_,?_⟩<;>rintro rfl<;>revert h2<;>decide
theorem Hd.dig (n:Nat):Hd (jx n):=by
 obtain⟨i1,i2,_,_⟩:=wD n
 cases hb:bs (jx n) with
 | nil=>exact absurd hb i2
 | cons c t=>
  rw[hb] at i1
  simp only[List.all_cons,Bool.and_eq_true] at i1
  refine⟨c,t,hb,?_,?_⟩<;>rintro rfl<;>have:=i1.1<;>revert this<;>decide
theorem Hd.par {s:ByteArray}(h:Hd s)(b:Bool):Hd (qK b s):=by
 unfold qK
 split
 ·exact Hd.app (Hd.app ⟨40,[],rfl,by decide,by decide⟩ _) _
 ·exact h
theorem Hd.ex {ns:List ByteArray}(hn:∀ s∈ns,cY s):∀ (d:Nat) (e:Ex),fp ns d e→Hd (ij e)
 | _,.num n,_=>Hd.dig n
 | _,.nm s,h=>Hd.nm (hn s (by simpa [fp] using h))
 | d+1,.un k e,h=>by
  simp only[ij]
  refine Hd.app ?_ _
  split
  ·exact⟨45,[],rfl,by decide,by decide⟩
  ·exact⟨33,[],rfl,by decide,by decide⟩
 | d+1,.bin k a b,h=>by
  simp only[fp] at h
  simp only[ij]
  exact Hd.app (Hd.app (Hd.app (Hd.app (Hd.par (Hd.ex hn d a h.2.1) _) _) _) _) _
 | 0,.un _ _,h=>h.elim
 | 0,.bin _ _ _,h=>h.elim
 | 0,.zero,h=>h.elim
 | 0,.loc _,h=>h.elim
 | 0,.jv _,h=>h.elim
 | _+1,.zero,h=>h.elim
 | _+1,.loc _,h=>h.elim
 | _+1,.jv _,h=>h.elim
theorem bR.par {s:ByteArray}{k b:Nat}(h:bR Stop s k b)(c:Bool):bR Stop (qK c s) (k+2) (b+2):=by
 unfold qK
 split
 ·have h1:=(bR.sign (c:=40) (by decide) (by decide)).app h fun _ _=>trivial
  have h2:=h1.app (bR.sign (c:=41) (by decide) (by decide)) fun r _=>Stop.cons _ (by decide)
  exact (h2.any Stop).mono (by omega) (by omega)
 ·exact h.mono (by omega) (by omega)
theorem bR.op {k:Nat}(hk:k<13):bR Any (⟨#[32]⟩++z8.getD k ⟨#[]⟩++⟨#[32]⟩) 1 4:=by
 refine⟨?_,fun r n _ hl=>?_⟩
 ·revert k;decide
 have hl':Lx (32::r) n:=Lx.sp (by decide) hl
 have h1:∀ c:UInt8,c∈kY→Lx (32::c::32::r) (n+1):=fun c hc=>Lx.sp (by decide) (Lx.one hc (by simp) hl')
 have h2:∀ a b:UInt8,(a,b)∈pH→Lx (32::a::b::32::r) (n+1):=fun a b hc=>Lx.sp (by decide) (Lx.two hc hl')
 match k,hk with
 | 0,_=>exact h1 42 (by decide)
 | 1,_=>exact h1 47 (by decide)
 | 2,_=>exact h1 37 (by decide)
 | 3,_=>exact h1 43 (by decide)
 | 4,_=>exact h1 45 (by decide)
 | 5,_=>exact h1 60 (by decide)
 | 6,_=>exact h2 60 61 (by decide)
 | 7,_=>exact h1 62 (by decide)
 | 8,_=>exact h2 62 61 (by decide)
 | 9,_=>exact h2 61 61 (by decide)
 | 10,_=>exact h2 33 61 (by decide)
 | 11,_=>exact h2 38 38 (by decide)
 | 12,_=>exact h2 124 124 (by decide)
theorem rk (d:Nat):1≤qw d:=by cases d<;>simp[qw]
theorem bR.ex {ns:List ByteArray}(hn:∀ s∈ns,cY s):∀ (d:Nat) (e:Ex),fp ns d e→bR Stop (ij e) (qw d) (24*qw d)
 | d,.num n,h=>by
  have h1:n<4611686018427387904:=by simpa [fp] using h
  have:=rk d
  exact (bR.dig (n:=n) (by omega)).mono (by omega) (by omega)
 | d,.nm s,h=>by
  have:=rk d
  exact (bR.nm (hn s (by simpa [fp] using h))).mono (by omega) (by omega)
 | d+1,.un k e,h=>by
  simp only[fp] at h
  have h1:=(bR.ex hn d e h.2).par (decide (e.st<5))
  have hh:=Hd.par (Hd.ex hn d e h.2) (decide (e.st<5))
  simp only[ij]
  have:=rk d
  split
  ·exact ((bR.sign (c:=45) (by decide) (by decide)).app h1 fun _ _=>trivial).mono (by simp only[qw];omega) (by simp only[qw];omega)
  ·refine⟨?_,fun r n hr hl=>?_⟩
   ·rw[fT,List.length_append]
    have:=h1.1
    simp only[qw]
    show 1+_≤_
    omega
   ·rw[fT]
    have h2:=h1.2 r n hr hl
    obtain⟨c,t,e1,e2⟩:=hh
    rw[List.append_assoc]
    rw[e1] at h2 ⊢
    exact (Lx.one (c:=33) (by decide) (by rintro x hx;simp at hx;exact hx ▸ e2) h2).mono (by simp only[qw];omega)
 | d+1,.bin k a b,h=>by
  simp only[fp] at h
  have ha:=(bR.ex hn d a h.2.1).par (decide (a.st<lZ (5+k)))
  have hb:=(bR.ex hn d b h.2.2).par (decide (b.st≤lZ (5+k)))
  have ho:=bR.op h.1
  have h1:=(ha.app ho fun r _=>by
   rw[fT,fT]
   exact Stop.cons _ (by decide)).app hb fun _ _=>trivial
  simp only[ij,ByteArray.append_assoc] at h1 ⊢
  have:=rk d
  exact h1.mono (by simp only[qw];omega) (by simp only[qw];omega)
 | 0,.un _ _,h=>h.elim
 | 0,.bin _ _ _,h=>h.elim
 | 0,.zero,h=>h.elim
 | 0,.loc _,h=>h.elim
 | 0,.jv _,h=>h.elim
 | _+1,.zero,h=>h.elim
 | _+1,.loc _,h=>h.elim
 | _+1,.jv _,h=>h.elim
end Go.bg
