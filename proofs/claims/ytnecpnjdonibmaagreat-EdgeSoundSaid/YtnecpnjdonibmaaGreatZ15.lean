/- What Lex accepts, and the text of a program as a plain funct -/
import Derived.Test.YtnecpnjdonibmaaGreatZ14
namespace Go.aP
open Go.Can
def ia (c:UInt8):Bool:=c == 32 || c == 9 || c == 10 || c == 13
def isLet (c:UInt8):Bool:=(decide (97≤c.toNat) && decide (c.toNat≤122)) || (decide (65≤c.toNat) && decide (c.toNat≤90)) || decide (c.toNat=95)
def cQ (c:UInt8):Bool:=decide (48≤c.toNat) && decide (c.toNat≤57)
def eW (c:UInt8):Bool:=isLet c || cQ c
def qe:List (List UInt8):=[[118,97,114],[109,117,116,101,120],[114,109,117,116,101,120],[102,117,110,99],[108,111,99,107],[117,110,108,111,99,107],[103,111],[105,102],[101,108,115,101],[119,104,105,108,101],[114,101,116,117,114,110]]
def lu:List UInt8:=[40,41,123,125,91,93,44,59,61,43,45,42,47,37,60,62,33]
def p7:List (UInt8×UInt8):=[(60,61),(62,61),(61,61),(33,61),(38,38),(124,124)]
def kA (w:List UInt8):Nat:=w.foldl (fun n c=>10*n+(c.toNat-48)) 0
def r9:List UInt8→Nat
 | a::b::_=>if (a,b)∈p7 then 2 else if a∈lu then 1 else 0
 | [a]=>if a∈lu then 1 else 0
 | []=>0
inductive Lx:List UInt8→Nat→Prop
 | nil (n:Nat):Lx [] n
 | sp {c:UInt8} {r:List UInt8} {n:Nat}:ia c=true→Lx r n→Lx (c::r) n
 | nm {c:UInt8} {r:List UInt8} {n:Nat}:isLet c=true→(((c::r).takeWhile eW).length≤16∨(c::r).takeWhile eW∈qe)→Lx ((c::r).dropWhile eW) n→Lx (c::r) (n+1)
 | num {c:UInt8} {r:List UInt8} {n:Nat}:cQ c=true→kA ((c::r).takeWhile cQ)<9223372036854775808→Lx ((c::r).dropWhile cQ) n→Lx (c::r) (n+1)
 | sg {c:UInt8} {r:List UInt8} {n:Nat}:isLet c=false→cQ c=false→ia c=false→(c=47→r.head?≠some 47)→0<r9 (c::r)→Lx ((c::r).drop (r9 (c::r))) n→Lx (c::r) (n+1)
theorem Lx.mono {r:List UInt8}{n m:Nat}(h:Lx r n)(hm:n≤m):Lx r m:=by
 induction h generalizing m with
 | nil=>exact .nil _
 | sp a _ ih=>exact .sp a (ih hm)
 | nm a b _ ih=>
  obtain⟨k,rfl⟩:∃ k,m=k+1:=⟨m-1,by omega⟩;exact .nm a b (ih yA)
 | num a b _ ih=>
  obtain⟨k,rfl⟩:∃ k,m=k+1:=⟨m-1,by omega⟩;exact .num a b (ih yA)
 | sg a b c d e _ ih=>
  obtain⟨k,rfl⟩:∃ k,m=k+1:=⟨m-1,by omega⟩;exact .sg a b c d e (ih yA)
def Stop (r:List UInt8):Prop:=∀ c,r.head? = some c→eW c=false∧c≠61∧c≠47
theorem jw {p:UInt8→Bool}:∀ (w r:List UInt8),(w.all p=true)→(∀ c,r.head? = some c→p c=false)→(w++r).takeWhile p=w∧(w++r).dropWhile p=r
 | [],r,_,h=>by
  cases r with
  | nil=>exact⟨rfl,rfl⟩
  | cons c r=>
   have:=h c rfl;simp[this]
 | a::w,r,ha,h=>by
  simp only[List.all_cons,Bool.and_eq_true] at ha;obtain⟨h1,h2⟩:=jw w r ha.2 h;constructor
  ·rw[List.cons_append,List.takeWhile_cons,if_pos ha.1,h1]
  ·rw[List.cons_append,List.dropWhile_cons,if_pos ha.1,h2]
def KE (s:List UInt8)(k:Nat):Prop:=∀ r n,Stop r→Lx r n→Lx (s++r) (n+k)
theorem KE.name {s:List UInt8}(h0:∃ c t,s=c::t∧isLet c=true)(h1:s.all eW=true)(h2:s.length≤16∨s∈qe):KE s 1:=by
 intro r n hr hl;obtain⟨c,t,rfl,hc⟩:=h0;obtain⟨e1,e2⟩:=jw (c::t) r h1 fun x hx=>(hr x hx).1;rw[List.cons_append] at e1 e2 ⊢;exact Lx.nm hc (by rw[e1];exact h2) (by rw[e2];exact hl)
theorem KE.num {s:List UInt8}(h0:s≠[])(h1:s.all cQ=true)(h2:kA s<9223372036854775808):KE s 1:=by
 intro r n hr hl
 cases s with
 | nil=>exact absurd rfl h0
 | cons c t=>
  have hd:∀ x,r.head? = some x→cQ x=false:=fun x hx=>by
   have:=(hr x hx).1;simp only[eW,Bool.or_eq_false_iff] at this;exact this.2
  obtain⟨e1,e2⟩:=jw (c::t) r h1 hd;simp only[List.all_cons,Bool.and_eq_true] at h1;rw[List.cons_append] at e1 e2 ⊢;exact Lx.num h1.1 (by rw[e1];exact h2) (by rw[e2];exact hl)
theorem Lx.one {c:UInt8}{r:List UInt8}{n:Nat}(hc:c∈lu)(hr:∀ x,r.head? = some x→x≠61∧x≠47)(hl:Lx r n):Lx (c::r) (n+1):=by
 have hx:(∀ b,(c,b)∈p7→b=61):=by
  intro b hb;simp only[lu,List.mem_cons,List.not_mem_nil,or_false] at hc;rcases hc with rfl | rfl | rfl | rfl | rfl | rfl | rfl | rfl | rfl | rfl | rfl | rfl | rfl | rfl | rfl | rfl | rfl<;>simp_all [p7]
 have hs:r9 (c::r)=1:=by
  cases r with
  | nil=>simp[r9,hc]
  | cons b t=>
   have hb:(c,b)∉p7:=fun h=>(hr b rfl).1 (hx b h);simp[r9,hc,hb]
 have h3:isLet c=false∧cQ c=false∧ia c=false:=by
  simp only[lu,List.mem_cons,List.not_mem_nil,or_false] at hc;rcases hc with rfl | rfl | rfl | rfl | rfl | rfl | rfl | rfl | rfl | rfl | rfl | rfl | rfl | rfl | rfl | rfl | rfl<;>decide
 refine Lx.sg h3.1 h3.2.1 h3.2.2 (fun _ h=>(hr 47 h).2 rfl) (by rw[hs];exact Nat.one_pos) ?_;rw[hs];exact hl
theorem Lx.xO {c:UInt8}{r:List UInt8}{n:Nat}(hc:c∈lu)(h:c≠60∧c≠62∧c≠61∧c≠33∧c≠47)(hl:Lx r n):Lx (c::r) (n+1):=by
 have hs:r9 (c::r)=1:=by
  cases r with
  | nil=>simp[r9,hc]
  | cons b t=>
   have hb:(c,b)∉p7:=by
    simp only[lu,List.mem_cons,List.not_mem_nil,or_false] at hc;rcases hc with rfl | rfl | rfl | rfl | rfl | rfl | rfl | rfl | rfl | rfl | rfl | rfl | rfl | rfl | rfl | rfl | rfl<;>simp_all [p7]
   simp[r9,hc,hb]
 have h3:isLet c=false∧cQ c=false∧ia c=false:=by
  simp only[lu,List.mem_cons,List.not_mem_nil,or_false] at hc;rcases hc with rfl | rfl | rfl | rfl | rfl | rfl | rfl | rfl | rfl | rfl | rfl | rfl | rfl | rfl | rfl | rfl | rfl<;>decide
 refine Lx.sg h3.1 h3.2.1 h3.2.2 (fun e=>absurd e h.2.2.2.2) (by rw[hs];exact Nat.one_pos) ?_;rw[hs];exact hl
theorem Lx.two {a b:UInt8}{r:List UInt8}{n:Nat}(hc:(a,b)∈p7)(hl:Lx r n):Lx (a::b::r) (n+1):=by
 have hs:r9 (a::b::r)=2:=by simp[r9,hc]
 have h3:isLet a=false∧cQ a=false∧ia a=false∧a≠47:=by
  simp only[p7,List.mem_cons,List.not_mem_nil,or_false,Prod.mk.injEq] at hc;rcases hc with ⟨rfl,_⟩ | ⟨rfl,_⟩ | ⟨rfl,_⟩ | ⟨rfl,_⟩ | ⟨rfl,_⟩ | ⟨rfl,_⟩<;>decide
 refine Lx.sg h3.1 h3.2.1 h3.2.2.1 (fun e=>absurd e h3.2.2.2) (by rw[hs];omega) ?_;rw[hs];exact hl
theorem Stop.cons {c:UInt8}(r:List UInt8)(h:eW c=false∧c≠61∧c≠47):Stop (c::r):=by
 intro x hx;simp only[List.head?_cons,Option.some.injEq] at hx;exact hx ▸ h
theorem Lx.inv {c:UInt8}{r:List UInt8}{n:Nat}(h:Lx (c::r) n)(hs:ia c=false):∃ m,n=m+1∧
  ((isLet c=true∧(((c::r).takeWhile eW).length≤16∨(c::r).takeWhile eW∈qe)∧Lx ((c::r).dropWhile eW) m)∨
   (isLet c=false∧cQ c=true∧kA ((c::r).takeWhile cQ)<9223372036854775808∧Lx ((c::r).dropWhile cQ) m)∨
   (isLet c=false∧cQ c=false∧(c=47→r.head?≠some 47)∧0<r9 (c::r)∧Lx ((c::r).drop (r9 (c::r))) m)):=by
 cases h with
 | sp a _=>rw[a] at hs;cases hs
 | nm a b d=>exact⟨_,rfl,.inl ⟨a,b,d⟩⟩
 | num a b d=>
  have hn:isLet c=false:=by
   simp only[cQ,Bool.and_eq_true,decide_eq_true_eq] at a;simp only[isLet,Bool.or_eq_false_iff,Bool.and_eq_false_iff,decide_eq_false_iff_not];omega
  exact⟨_,rfl,.inr (.inl ⟨hn,a,b,d⟩)⟩
 | sg a b d e f g=>exact⟨_,rfl,.inr (.inr ⟨a,b,e,f,g⟩)⟩
def pX (l:List UInt8):Nat:=(l.takeWhile ia).length
theorem Lx.skip {r:List UInt8}{n:Nat}(h:Lx r n):Lx (r.drop (pX r)) n:=by
 induction h with
 | nil n=>exact .nil n
 | @sp c r n a b ih=>
  have:pX (c::r)=pX r+1:=by simp[pX,a]
  rw[this,List.drop_succ_cons];exact ih
 | @nm c r n a b d _=>
  have hs:ia c=false:=by
   simp only[isLet,Bool.or_eq_true,Bool.and_eq_true,decide_eq_true_eq] at a
   cases h:ia c with
   | false=>rfl
   | true=>
    simp only[ia,Bool.or_eq_true,beq_iff_eq] at h;rcases h with ((rfl | rfl) | rfl) | rfl<;>revert a<;>decide
  have:pX (c::r)=0:=by simp[pX,hs]
  rw[this];exact .nm a b d
 | @num c r n a b d _=>
  have hs:ia c=false:=by
   simp only[cQ,Bool.and_eq_true,decide_eq_true_eq] at a
   cases h:ia c with
   | false=>rfl
   | true=>
    simp only[ia,Bool.or_eq_true,beq_iff_eq] at h;rcases h with ((rfl | rfl) | rfl) | rfl<;>revert a<;>decide
  have:pX (c::r)=0:=by simp[pX,hs]
  rw[this];exact .num a b d
 | @sg c r n a b d e f g _=>
  have:pX (c::r)=0:=by simp[pX,d]
  rw[this];exact .sg a b d e f g
theorem y7 {l:List UInt8}{c:UInt8}(h:(l.drop (pX l)).head? = some c):ia c=false:=by
 unfold pX at h
 induction l with
 | nil=>simp at h
 | cons a r ih=>
  cases ha:ia a with
  | true=>
   simp only[List.takeWhile_cons,ha,if_true,List.length_cons,List.drop_succ_cons] at h;exact ih h
  | false=>
   simp only[List.takeWhile_cons,ha] at h;simp at h;rw[← h];exact ha
def bs (s:ByteArray):List UInt8:=s.data.toList
theorem fX (a b:ByteArray):bs (a++b)=bs a++bs b:=by simp[bs,ByteArray.data_append]
theorem bs_mk (l:List UInt8):bs ⟨l.toArray⟩=l:=by simp[bs]
def jG (n:Nat):ByteArray:=if n<10 then dK (48+n) else jG (n / 10)++dK (48+n % 10)
termination_by n
decreasing_by omega
def kk (n:Int):ByteArray:=if n<0 then ⟨#[45]⟩++jG (-n).toNat else jG n.toNat
def mf (op:Nat):Nat:=if op=17 then 0 else if op=16 then 1 else if 10≤op∧op≤15 then 2 else if op=8∨op=9 then 3 else if 5≤op∧op≤7 then 4 else if op=3∨op=4 then 5 else 6
def Ex.kQ:Ex→Nat
 | .zero=>0
 | .num _=>1
 | .nm _=>2
 | .un k _=>3+k
 | .bin k _ _=>5+k
 | .loc _=>18
 | .jE _=>19
def Ex.st (e:Ex):Nat:=mf e.kQ
def rz (b:Bool)(x:ByteArray):ByteArray:=if b=true then ⟨#[40]⟩++x++⟨#[41]⟩ else x
def B1:List ByteArray:=[⟨#[42]⟩,⟨#[47]⟩,⟨#[37]⟩,⟨#[43]⟩,⟨#[45]⟩,⟨#[60]⟩,⟨#[60,61]⟩,⟨#[62]⟩,⟨#[62,61]⟩,⟨#[61,61]⟩,⟨#[33,61]⟩,⟨#[38,38]⟩,⟨#[124,124]⟩]
def iv:Ex→ByteArray
 | .num n=>jG n
 | .nm s=>s
 | .un k e=>(if k=0 then ⟨#[45]⟩ else ⟨#[33]⟩)++rz (decide (e.st<5)) (iv e)
 | .bin k a b=>rz (decide (a.st<mf (5+k))) (iv a)++⟨#[32]⟩++B1.getD k ⟨#[]⟩++⟨#[32]⟩++rz (decide (b.st≤mf (5+k))) (iv b)
 | _=>⟨#[]⟩
def Bo (r:Rf):ByteArray:=match r.index with
 | none=>r.name
 | some e=>r.name++⟨#[91]⟩++iv e++⟨#[93]⟩
def Ow:Ar→ByteArray
 | .ua r=>⟨#[109,117,116,101,120,32]⟩++Bo r
 | .exp e=>iv e
def uP:Bool→List Ar→ByteArray
 | _,[]=>⟨#[]⟩
 | first,a::r=>(if first=true then ⟨#[]⟩ else ⟨#[44,32]⟩)++Ow a++uP false r
def rJ (l:List Ar):ByteArray:=⟨#[40]⟩++uP true l++⟨#[41]⟩
def y0:ByteArray:=⟨#[118,97,114,32]⟩
def Ga:ByteArray:=⟨#[32,61,32]⟩
def iF:ByteArray:=⟨#[59]⟩
def Nw:ByteArray:=⟨#[103,111,32]⟩
def vD:ByteArray:=⟨#[108,111,99,107,32]⟩
def mQ:ByteArray:=⟨#[117,110,108,111,99,107,32]⟩
def Nv:ByteArray:=⟨#[105,102,32]⟩
def xw:ByteArray:=⟨#[119,104,105,108,101,32]⟩
def oT:ByteArray:=⟨#[32,123,10]⟩
def j6:ByteArray:=⟨#[125]⟩
def y4:ByteArray:=⟨#[32,101,108,115,101,32,123,10]⟩
def Jc:ByteArray:=⟨#[114,101,116,117,114,110,59]⟩
def tNl:ByteArray:=⟨#[10]⟩
def oR:ByteArray:=⟨#[9]⟩
mutual
def j7 (PI:ByteArray):Sm→ByteArray
 | .gA s e=>y0++s++Ga++iv e++iF
 | .hD s e=>s++Ga++iv e++iF
 | .dI g s l=>(if g=true then Nw++s else s)++rJ l++iF
 | .di u r=>(if u=true then mQ else vD)++Bo r++iF
 | .kG e th el=>Nv++iv e++oT++iS (PI++oR) th++PI++j6++(if el.length=0 then ⟨#[]⟩ else y4++iS (PI++oR) el++PI++j6)
 | .cC e th=>xw++iv e++oT++iS (PI++oR) th++PI++j6
 | .jb=>Jc
def iS (PI:ByteArray):List Sm→ByteArray
 | []=>⟨#[]⟩
 | s::r=>PI++j7 PI s++tNl++iS PI r
end
def K5 (g:Gl):ByteArray:=y0++g.name++(if g.init=0 then ⟨#[]⟩ else Ga++kk g.init)++⟨#[59,10]⟩
def JT (m:Mx):ByteArray:=(if m.re=true then ⟨#[114]⟩ else ⟨#[]⟩)++⟨#[109,117,116,101,120,32]⟩++m.name++(if m.size=0 then ⟨#[]⟩ else ⟨#[91]⟩++kk m.size++⟨#[93]⟩)++⟨#[59,10]⟩
def tH:Bool→List Pm→ByteArray
 | _,[]=>⟨#[]⟩
 | first,p::r=>(if first=true then ⟨#[]⟩ else ⟨#[44,32]⟩)++(if p.mutex=true then ⟨#[109,117,116,101,120,32]⟩ else ⟨#[]⟩)++p.name++tH false r
def Fz (f:Fu):ByteArray:=⟨#[102,117,110,99,32]⟩++f.name++⟨#[40]⟩++tH true f.params++⟨#[41,32,123,10]⟩++iS oR f.body++⟨#[125,10]⟩
def jm {α:Type}(f:α→ByteArray):List α→ByteArray
 | []=>⟨#[]⟩
 | a::r=>f a++jm f r
def Ej (p:Pg):ByteArray:=jm K5 p.gs++jm JT p.ms++jm Fz p.fs
def db (s:ByteArray):Prop:=(∃ c t,bs s=c::t∧isLet c=true)∧(bs s).all eW=true∧(bs s).length≤16
def bY (S:List UInt8→Prop)(s:ByteArray)(k b:Nat):Prop:=(bs s).length≤b∧∀ r n,S r→Lx r n→Lx (bs s++r) (n+k)
def Any (_:List UInt8):Prop:=True
theorem bY.app {S S':List UInt8→Prop}{s s':ByteArray}{k k' b b':Nat}(h:bY S s k b)(h':bY S' s' k' b')(hS:∀ r,S' r→S (bs s'++r)):bY S' (s++s') (k' + k) (b+b'):=by
 refine⟨by rw[fX,List.length_append];have:=h.1;have:=h'.1;omega,fun r n hr hl=>?_⟩;rw[fX,List.append_assoc,← Nat.add_assoc];exact h.2 _ _ (hS r hr) (h'.2 r n hr hl)
theorem bY.mono {S:List UInt8→Prop}{s:ByteArray}{k k' b b':Nat}(h:bY S s k b)(hk:k≤k')(hb:b≤b'):bY S s k' b':=
 ⟨Nat.le_trans h.1 hb,fun r n hr hl=>(h.2 r n hr hl).mono yA⟩
theorem bY.any {s:ByteArray}{k b:Nat}(h:bY Any s k b)(S:List UInt8→Prop):bY S s k b:=⟨h.1,fun r n _ hl=>h.2 r n trivial hl⟩
theorem bY.nil (S:List UInt8→Prop):bY S ⟨#[]⟩ 0 0:=⟨Nat.le_refl _,fun _ _ _ hl=>hl⟩
theorem bY.nm {s:ByteArray}(h:db s):bY Stop s 1 16:=⟨h.2.2,KE.name h.1 h.2.1 (.inl h.2.2)⟩
theorem bY.word {l:List UInt8}(h0:∃ c t,l=c::t∧isLet c=true)(h1:l.all eW=true)(h2:l.length≤16)(s:ByteArray)(hs:bs s=l++[32]):bY Any s 1 17:=by
 refine⟨by rw[hs];simp;omega,fun r n _ hl=>?_⟩;rw[hs,List.append_assoc];exact KE.name h0 h1 (.inl h2) _ _ (Stop.cons _ P1) (Lx.sp P1 hl)
theorem bY.sign {c:UInt8}(hc:c∈lu)(h:c≠60∧c≠62∧c≠61∧c≠33∧c≠47):bY Any ⟨#[c]⟩ 1 1:=⟨Nat.le_refl _,fun _ _ _ hl=>Lx.xO hc h hl⟩
theorem pD (n:Nat):bs (dK n)=[UInt8.ofNat n]:=rfl
theorem yk:∀ n:Nat,(bs (jG n)).all cQ=true∧bs (jG n)≠[]∧kA (bs (jG n))=n∧∀ b,n<10 ^ (b+1)→(bs (jG n)).length≤b+1:=by
 intro n
 induction n using Nat.strongRecOn with
 | _ n ih=>
 have hd:∀ k,k<10→cQ (UInt8.ofNat (48+k))=true∧(UInt8.ofNat (48+k)).toNat-48=k:=by decide
 rw[jG];split
 ·rename_i h;obtain⟨a,b⟩:=hd n h;refine⟨by rw[pD];simp only[List.all_cons,List.all_nil,a,Bool.and_self],by rw[pD];simp,by rw[pD];simp only[kA,List.foldl_cons,List.foldl_nil,b];omega,fun b hb=>by rw[pD];simp⟩
 ·rename_i h;obtain⟨a,b⟩:=hd (n % 10) yA;obtain⟨i1,i2,i3,i4⟩:=ih (n / 10) yA;rw[fX,pD];refine⟨by rw[List.all_append,i1];simp only[List.all_cons,List.all_nil,a,Bool.and_self],by simp,?_,fun b hb=>?_⟩
  ·unfold kA at i3 ⊢;rw[List.foldl_append,i3];simp only[List.foldl_cons,List.foldl_nil,b];omega
  ·cases b with
   | zero=>omega
   | succ b=>
    have:=i4 b (by rw[Nat.pow_succ] at hb;omega);simp;omega
theorem bY.dig {n:Nat}(h:n<9223372036854775808):bY Stop (jG n) 1 19:=by
 obtain⟨i1,i2,i3,i4⟩:=yk n;exact⟨i4 18 yA,KE.num i2 i1 (by rw[i3];exact h)⟩
def fc (ns:List ByteArray):Nat→Ex→Prop
 | _,.num n=>n<4611686018427387904
 | _,.nm s=>s∈ns
 | d+1,.un k e=>k<2∧fc ns d e
 | d+1,.bin k a b=>k<13∧fc ns d a∧fc ns d b
 | _,_=>False
def AT:Nat→Nat
 | 0=>1
 | d+1=>2*AT d+5
def Hd (s:ByteArray):Prop:=∃ c t,bs s=c::t∧c≠61∧c≠47
theorem Hd.app {s:ByteArray}(h:Hd s)(t:ByteArray):Hd (s++t):=by
 obtain⟨c,u,h1,h2⟩:=h;exact⟨c,u++bs t,by rw[fX,h1,List.cons_append],h2⟩
theorem Hd.nm {s:ByteArray}(h:db s):Hd s:=by
 obtain⟨⟨c,t,h1,h2⟩,_⟩:=h;refine⟨c,t,h1,?_,?_⟩<;>rintro rfl<;>revert h2<;>decide
theorem Hd.dig (n:Nat):Hd (jG n):=by
 obtain⟨i1,i2,_,_⟩:=yk n
 cases hb:bs (jG n) with
 | nil=>exact absurd hb i2
 | cons c t=>
  rw[hb] at i1;simp only[List.all_cons,Bool.and_eq_true] at i1;refine⟨c,t,hb,?_,?_⟩<;>rintro rfl<;>have:=i1.1<;>revert this<;>decide
theorem Hd.par {s:ByteArray}(h:Hd s)(b:Bool):Hd (rz b s):=by
 unfold rz;split
 ·exact Hd.app (Hd.app ⟨40,[],rfl,by decide,by decide⟩ _) _
 ·exact h
theorem Hd.ex {ns:List ByteArray}(hn:∀ s∈ns,db s):∀ (d:Nat) (e:Ex),fc ns d e→Hd (iv e)
 | _,.num n,_=>Hd.dig n
 | _,.nm s,h=>Hd.nm (hn s (by simpa [fc] using h))
 | d+1,.un k e,h=>by
  simp only[iv];refine Hd.app ?_ _;split
  ·exact⟨45,[],rfl,by decide,by decide⟩
  ·exact⟨33,[],rfl,by decide,by decide⟩
 | d+1,.bin k a b,h=>by
  simp only[fc] at h;simp only[iv];exact Hd.app (Hd.app (Hd.app (Hd.app (Hd.par (Hd.ex hn d a h.2.1) _) _) _) _) _
 | 0,.un _ _,h=>h.elim
 | 0,.bin _ _ _,h=>h.elim
 | 0,.zero,h=>h.elim
 | 0,.loc _,h=>h.elim
 | 0,.jE _,h=>h.elim
 | _+1,.zero,h=>h.elim
 | _+1,.loc _,h=>h.elim
 | _+1,.jE _,h=>h.elim
theorem bY.par {s:ByteArray}{k b:Nat}(h:bY Stop s k b)(c:Bool):bY Stop (rz c s) (k+2) (b+2):=by
 unfold rz;split
 ·have h1:=(bY.sign (c:=40) P1 P1).app h fun _ _=>trivial;have h2:=h1.app (bY.sign (c:=41) P1 P1) fun r _=>Stop.cons _ P1;exact (h2.any Stop).mono yA yA
 ·exact h.mono yA yA
theorem bY.op {k:Nat}(hk:k<13):bY Any (⟨#[32]⟩++B1.getD k ⟨#[]⟩++⟨#[32]⟩) 1 4:=by
 refine⟨?_,fun r n _ hl=>?_⟩
 ·revert k;decide
 have T8:Lx (32::r) n:=Lx.sp P1 hl;have h1:∀ c:UInt8,c∈lu→Lx (32::c::32::r) (n+1):=fun c hc=>Lx.sp P1 (Lx.one hc zX T8);have h2:∀ a b:UInt8,(a,b)∈p7→Lx (32::a::b::32::r) (n+1):=fun a b hc=>Lx.sp P1 (Lx.two hc T8)
 match k,hk with
 | 0,_=>exact h1 42 P1
 | 1,_=>exact h1 47 P1
 | 2,_=>exact h1 37 P1
 | 3,_=>exact h1 43 P1
 | 4,_=>exact h1 45 P1
 | 5,_=>exact h1 60 P1
 | 6,_=>exact h2 60 61 P1
 | 7,_=>exact h1 62 P1
 | 8,_=>exact h2 62 61 P1
 | 9,_=>exact h2 61 61 P1
 | 10,_=>exact h2 33 61 P1
 | 11,_=>exact h2 38 38 P1
 | 12,_=>exact h2 124 124 P1
theorem su (d:Nat):1≤AT d:=by cases d<;>simp[AT]
theorem bY.ex {ns:List ByteArray}(hn:∀ s∈ns,db s):∀ (d:Nat) (e:Ex),fc ns d e→bY Stop (iv e) (AT d) (24*AT d)
 | d,.num n,h=>by
  have h1:n<4611686018427387904:=by simpa [fc] using h
  have:=su d;exact (bY.dig (n:=n) yA).mono yA yA
 | d,.nm s,h=>by
  have:=su d;exact (bY.nm (hn s (by simpa [fc] using h))).mono yA yA
 | d+1,.un k e,h=>by
  simp only[fc] at h;have h1:=(bY.ex hn d e h.2).par (decide (e.st<5));have hh:=Hd.par (Hd.ex hn d e h.2) (decide (e.st<5));simp only[iv];have:=su d;split
  ·exact ((bY.sign (c:=45) P1 P1).app h1 fun _ _=>trivial).mono U7 U7
  ·refine⟨?_,fun r n hr hl=>?_⟩
   ·rw[fX,List.length_append];have:=h1.1;simp only[AT];show 1+_≤_;omega
   ·rw[fX];have h2:=h1.2 r n hr hl;obtain⟨c,t,e1,e2⟩:=hh;rw[List.append_assoc];rw[e1] at h2 ⊢;exact (Lx.one (c:=33) P1 (by rintro x hx;simp at hx;exact hx ▸ e2) h2).mono U7
 | d+1,.bin k a b,h=>by
  simp only[fc] at h;have ha:=(bY.ex hn d a h.2.1).par (decide (a.st<mf (5+k)));have hb:=(bY.ex hn d b h.2.2).par (decide (b.st≤mf (5+k)));have ho:=bY.op h.1;have h1:=(ha.app ho fun r _=>by
   rw[fX,fX];exact Stop.cons _ P1).app hb fun _ _=>trivial
  simp only[iv,ByteArray.append_assoc] at h1 ⊢;have:=su d;exact h1.mono U7 U7
 | 0,.un _ _,h=>h.elim
 | 0,.bin _ _ _,h=>h.elim
 | 0,.zero,h=>h.elim
 | 0,.loc _,h=>h.elim
 | 0,.jE _,h=>h.elim
 | _+1,.zero,h=>h.elim
 | _+1,.loc _,h=>h.elim
 | _+1,.jE _,h=>h.elim
end Go.aP
