/- What Lex accepts, and the text of a program as a plain funct -/
import Derived.Test.YtmnglemlimfpbaaGreatZ20
namespace Go.aX
open Go.Can
def iM (c:UInt8):Bool:=c == 32 || c == 9 || c == 10 || c == 13
def isLet (c:UInt8):Bool:=(decide (97≤c.toNat) && decide (c.toNat≤122)) || (decide (65≤c.toNat) && decide (c.toNat≤90)) || decide (c.toNat=95)
def db (c:UInt8):Bool:=decide (48≤c.toNat) && decide (c.toNat≤57)
def fG (c:UInt8):Bool:=isLet c || db c
def q9:List (List UInt8):=[[118,97,114],[109,117,116,101,120],[114,109,117,116,101,120],[102,117,110,99],[108,111,99,107],[117,110,108,111,99,107],[103,111],[105,102],[101,108,115,101],[119,104,105,108,101],[114,101,116,117,114,110]]
def mf:List UInt8:=[40,41,123,125,91,93,44,59,61,43,45,42,47,37,60,62,33]
def qS:List (UInt8×UInt8):=[(60,61),(62,61),(61,61),(33,61),(38,38),(124,124)]
def lq (w:List UInt8):Nat:=w.foldl (fun n c=>10*n+(c.toNat-48)) 0
def sT:List UInt8→Nat
 | a::b::_=>if (a,b)∈qS then 2 else if a∈mf then 1 else 0
 | [a]=>if a∈mf then 1 else 0
 | []=>0
inductive Lx:List UInt8→Nat→Prop
 | nil (n:Nat):Lx [] n
 | sp {c:UInt8} {r:List UInt8} {n:Nat}:iM c=true→Lx r n→Lx (c::r) n
 | nm {c:UInt8} {r:List UInt8} {n:Nat}:isLet c=true→(((c::r).takeWhile fG).length≤16∨(c::r).takeWhile fG∈q9)→Lx ((c::r).dropWhile fG) n→Lx (c::r) (n+1)
 | num {c:UInt8} {r:List UInt8} {n:Nat}:db c=true→lq ((c::r).takeWhile db)<9223372036854775808→Lx ((c::r).dropWhile db) n→Lx (c::r) (n+1)
 | sg {c:UInt8} {r:List UInt8} {n:Nat}:isLet c=false→db c=false→iM c=false→(c=47→r.head?≠some 47)→0<sT (c::r)→Lx ((c::r).drop (sT (c::r))) n→Lx (c::r) (n+1)
theorem Lx.mono {r:List UInt8}{n m:Nat}(h:Lx r n)(hm:n≤m):Lx r m:=by
 induction h generalizing m with
 | nil=>exact .nil _
 | sp a _ ih=>exact .sp a (ih hm)
 | nm a b _ ih=>
  obtain⟨k,rfl⟩:∃ k,m=k+1:=⟨m-1,by omega⟩
  exact .nm a b (ih yA)
 | num a b _ ih=>
  obtain⟨k,rfl⟩:∃ k,m=k+1:=⟨m-1,by omega⟩
  exact .num a b (ih yA)
 | sg a b c d e _ ih=>
  obtain⟨k,rfl⟩:∃ k,m=k+1:=⟨m-1,by omega⟩
  exact .sg a b c d e (ih yA)
def Stop (r:List UInt8):Prop:=∀ c,r.head? = some c→fG c=false∧c≠61∧c≠47
theorem jZ {p:UInt8→Bool}:∀ (w r:List UInt8),(w.all p=true)→(∀ c,r.head? = some c→p c=false)→(w++r).takeWhile p=w∧(w++r).dropWhile p=r
 | [],r,_,h=>by
  cases r with
  | nil=>exact⟨rfl,rfl⟩
  | cons c r=>
   have:=h c rfl
   simp[this]
 | a::w,r,ha,h=>by
  simp only[List.all_cons,Bool.and_eq_true] at ha
  obtain⟨h1,h2⟩:=jZ w r ha.2 h
  constructor
  ·rw[List.cons_append,List.takeWhile_cons,if_pos ha.1,h1]
  ·rw[List.cons_append,List.dropWhile_cons,if_pos ha.1,h2]
def Jp (s:List UInt8)(k:Nat):Prop:=∀ r n,Stop r→Lx r n→Lx (s++r) (n+k)
theorem Jp.name {s:List UInt8}(h0:∃ c t,s=c::t∧isLet c=true)(h1:s.all fG=true)(h2:s.length≤16∨s∈q9):Jp s 1:=by
 intro r n hr hl
 obtain⟨c,t,rfl,hc⟩:=h0
 obtain⟨e1,e2⟩:=jZ (c::t) r h1 fun x hx=>(hr x hx).1
 rw[List.cons_append] at e1 e2 ⊢
 exact Lx.nm hc (by rw[e1];exact h2) (by rw[e2];exact hl)
theorem Jp.num {s:List UInt8}(h0:s≠[])(h1:s.all db=true)(h2:lq s<9223372036854775808):Jp s 1:=by
 intro r n hr hl
 cases s with
 | nil=>exact absurd rfl h0
 | cons c t=>
  have hd:∀ x,r.head? = some x→db x=false:=fun x hx=>by
   have:=(hr x hx).1
   simp only[fG,Bool.or_eq_false_iff] at this
   exact this.2
  obtain⟨e1,e2⟩:=jZ (c::t) r h1 hd
  simp only[List.all_cons,Bool.and_eq_true] at h1
  rw[List.cons_append] at e1 e2 ⊢
  exact Lx.num h1.1 (by rw[e1];exact h2) (by rw[e2];exact hl)
theorem Lx.one {c:UInt8}{r:List UInt8}{n:Nat}(hc:c∈mf)(hr:∀ x,r.head? = some x→x≠61∧x≠47)(hl:Lx r n):Lx (c::r) (n+1):=by
 have hx:(∀ b,(c,b)∈qS→b=61):=by
  intro b hb
  simp only[mf,List.mem_cons,List.not_mem_nil,or_false] at hc
  rcases hc with rfl | rfl | rfl | rfl | rfl | rfl | rfl | rfl | rfl | rfl | rfl | rfl | rfl | rfl | rfl | rfl | rfl<;>simp_all [qS]
 have hs:sT (c::r)=1:=by
  cases r with
  | nil=>simp[sT,hc]
  | cons b t=>
   have hb:(c,b)∉qS:=fun h=>(hr b rfl).1 (hx b h)
   simp[sT,hc,hb]
 have h3:isLet c=false∧db c=false∧iM c=false:=by
  simp only[mf,List.mem_cons,List.not_mem_nil,or_false] at hc
  rcases hc with rfl | rfl | rfl | rfl | rfl | rfl | rfl | rfl | rfl | rfl | rfl | rfl | rfl | rfl | rfl | rfl | rfl<;>decide
 refine Lx.sg h3.1 h3.2.1 h3.2.2 (fun _ h=>(hr 47 h).2 rfl) (by rw[hs];exact Nat.one_pos) ?_
 rw[hs]
 exact hl
theorem Lx.ym {c:UInt8}{r:List UInt8}{n:Nat}(hc:c∈mf)(h:c≠60∧c≠62∧c≠61∧c≠33∧c≠47)(hl:Lx r n):Lx (c::r) (n+1):=by
 have hs:sT (c::r)=1:=by
  cases r with
  | nil=>simp[sT,hc]
  | cons b t=>
   have hb:(c,b)∉qS:=by
    simp only[mf,List.mem_cons,List.not_mem_nil,or_false] at hc
    rcases hc with rfl | rfl | rfl | rfl | rfl | rfl | rfl | rfl | rfl | rfl | rfl | rfl | rfl | rfl | rfl | rfl | rfl<;>simp_all [qS]
   simp[sT,hc,hb]
 have h3:isLet c=false∧db c=false∧iM c=false:=by
  simp only[mf,List.mem_cons,List.not_mem_nil,or_false] at hc
  rcases hc with rfl | rfl | rfl | rfl | rfl | rfl | rfl | rfl | rfl | rfl | rfl | rfl | rfl | rfl | rfl | rfl | rfl<;>decide
 refine Lx.sg h3.1 h3.2.1 h3.2.2 (fun e=>absurd e h.2.2.2.2) (by rw[hs];exact Nat.one_pos) ?_
 rw[hs]
 exact hl
theorem Lx.two {a b:UInt8}{r:List UInt8}{n:Nat}(hc:(a,b)∈qS)(hl:Lx r n):Lx (a::b::r) (n+1):=by
 have hs:sT (a::b::r)=2:=by simp[sT,hc]
 have h3:isLet a=false∧db a=false∧iM a=false∧a≠47:=by
  simp only[qS,List.mem_cons,List.not_mem_nil,or_false,Prod.mk.injEq] at hc
  rcases hc with ⟨rfl,_⟩ | ⟨rfl,_⟩ | ⟨rfl,_⟩ | ⟨rfl,_⟩ | ⟨rfl,_⟩ | ⟨rfl,_⟩<;>decide
 refine Lx.sg h3.1 h3.2.1 h3.2.2.1 (fun e=>absurd e h3.2.2.2) (by rw[hs];omega) ?_
 rw[hs]
 exact hl
theorem Stop.cons {c:UInt8}(r:List UInt8)(h:fG c=false∧c≠61∧c≠47):Stop (c::r):=by
 intro x hx
 simp only[List.head?_cons,Option.some.injEq] at hx
 exact hx ▸ h
theorem Lx.inv {c:UInt8}{r:List UInt8}{n:Nat}(h:Lx (c::r) n)(hs:iM c=false):∃ m,n=m+1∧
  ((isLet c=true∧(((c::r).takeWhile fG).length≤16∨(c::r).takeWhile fG∈q9)∧Lx ((c::r).dropWhile fG) m)∨
   (isLet c=false∧db c=true∧lq ((c::r).takeWhile db)<9223372036854775808∧Lx ((c::r).dropWhile db) m)∨
   (isLet c=false∧db c=false∧(c=47→r.head?≠some 47)∧0<sT (c::r)∧Lx ((c::r).drop (sT (c::r))) m)):=by
 cases h with
 | sp a _=>rw[a] at hs;cases hs
 | nm a b d=>exact⟨_,rfl,.inl ⟨a,b,d⟩⟩
 | num a b d=>
  have hn:isLet c=false:=by
   simp only[db,Bool.and_eq_true,decide_eq_true_eq] at a
   simp only[isLet,Bool.or_eq_false_iff,Bool.and_eq_false_iff,decide_eq_false_iff_not]
   omega
  exact⟨_,rfl,.inr (.inl ⟨hn,a,b,d⟩)⟩
 | sg a b d e f g=>exact⟨_,rfl,.inr (.inr ⟨a,b,e,f,g⟩)⟩
def qL (l:List UInt8):Nat:=(l.takeWhile iM).length
theorem Lx.skip {r:List UInt8}{n:Nat}(h:Lx r n):Lx (r.drop (qL r)) n:=by
 induction h with
 | nil n=>exact .nil n
 | @sp c r n a b ih=>
  have:qL (c::r)=qL r+1:=by simp[qL,a]
  rw[this,List.drop_succ_cons]
  exact ih
 | @nm c r n a b d _=>
  have hs:iM c=false:=by
   simp only[isLet,Bool.or_eq_true,Bool.and_eq_true,decide_eq_true_eq] at a
   cases h:iM c with
   | false=>rfl
   | true=>
    simp only[iM,Bool.or_eq_true,beq_iff_eq] at h
    rcases h with ((rfl | rfl) | rfl) | rfl<;>revert a<;>decide
  have:qL (c::r)=0:=by simp[qL,hs]
  rw[this]
  exact .nm a b d
 | @num c r n a b d _=>
  have hs:iM c=false:=by
   simp only[db,Bool.and_eq_true,decide_eq_true_eq] at a
   cases h:iM c with
   | false=>rfl
   | true=>
    simp only[iM,Bool.or_eq_true,beq_iff_eq] at h
    rcases h with ((rfl | rfl) | rfl) | rfl<;>revert a<;>decide
  have:qL (c::r)=0:=by simp[qL,hs]
  rw[this]
  exact .num a b d
 | @sg c r n a b d e f g _=>
  have:qL (c::r)=0:=by simp[qL,d]
  rw[this]
  exact .sg a b d e f g
theorem zB {l:List UInt8}{c:UInt8}(h:(l.drop (qL l)).head? = some c):iM c=false:=by
 unfold qL at h
 induction l with
 | nil=>simp at h
 | cons a r ih=>
  cases ha:iM a with
  | true=>
   simp only[List.takeWhile_cons,ha,if_true,List.length_cons,List.drop_succ_cons] at h
   exact ih h
  | false=>
   simp only[List.takeWhile_cons,ha] at h
   simp at h
   rw[← h];exact ha
def bs (s:ByteArray):List UInt8:=s.data.toList
theorem gJ (a b:ByteArray):bs (a++b)=bs a++bs b:=by simp[bs,ByteArray.data_append]
theorem bs_mk (l:List UInt8):bs ⟨l.toArray⟩=l:=by simp[bs]
def kf (n:Nat):ByteArray:=if n<10 then eg (48+n) else kf (n / 10)++eg (48+n % 10)
termination_by n
decreasing_by omega
def lg (n:Int):ByteArray:=if n<0 then ⟨#[45]⟩++kf (-n).toNat else kf n.toNat
def ny (op:Nat):Nat:=if op=17 then 0 else if op=16 then 1 else if 10≤op∧op≤15 then 2 else if op=8∨op=9 then 3 else if 5≤op∧op≤7 then 4 else if op=3∨op=4 then 5 else 6
def Ex.lP:Ex→Nat
 | .zero=>0
 | .num _=>1
 | .nm _=>2
 | .un k _=>3+k
 | .bin k _ _=>5+k
 | .loc _=>18
 | .ji _=>19
def Ex.st (e:Ex):Nat:=ny e.lP
def sI (b:Bool)(x:ByteArray):ByteArray:=if b=true then ⟨#[40]⟩++x++⟨#[41]⟩ else x
def Cm:List ByteArray:=[⟨#[42]⟩,⟨#[47]⟩,⟨#[37]⟩,⟨#[43]⟩,⟨#[45]⟩,⟨#[60]⟩,⟨#[60,61]⟩,⟨#[62]⟩,⟨#[62,61]⟩,⟨#[61,61]⟩,⟨#[33,61]⟩,⟨#[38,38]⟩,⟨#[124,124]⟩]
def ja:Ex→ByteArray
 | .num n=>kf n
 | .nm s=>s
 | .un k e=>(if k=0 then ⟨#[45]⟩ else ⟨#[33]⟩)++sI (decide (e.st<5)) (ja e)
 | .bin k a b=>sI (decide (a.st<ny (5+k))) (ja a)++⟨#[32]⟩++Cm.getD k ⟨#[]⟩++⟨#[32]⟩++sI (decide (b.st≤ny (5+k))) (ja b)
 | _=>⟨#[]⟩
def BK (r:Rf):ByteArray:=match r.index with
 | none=>r.name
 | some e=>r.name++⟨#[91]⟩++ja e++⟨#[93]⟩
def My:Ar→ByteArray
 | .uJ r=>⟨#[109,117,116,101,120,32]⟩++BK r
 | .exp e=>ja e
def vA:Bool→List Ar→ByteArray
 | _,[]=>⟨#[]⟩
 | first,a::r=>(if first=true then ⟨#[]⟩ else ⟨#[44,32]⟩)++My a++vA false r
def sM (l:List Ar):ByteArray:=⟨#[40]⟩++vA true l++⟨#[41]⟩
def zq:ByteArray:=⟨#[118,97,114,32]⟩
def Fk:ByteArray:=⟨#[32,61,32]⟩
def jf:ByteArray:=⟨#[59]⟩
def LF:ByteArray:=⟨#[103,111,32]⟩
def wC:ByteArray:=⟨#[108,111,99,107,32]⟩
def ou:ByteArray:=⟨#[117,110,108,111,99,107,32]⟩
def LD:ByteArray:=⟨#[105,102,32]⟩
def xY:ByteArray:=⟨#[119,104,105,108,101,32]⟩
def p8:ByteArray:=⟨#[32,123,10]⟩
def kU:ByteArray:=⟨#[125]⟩
def zt:ByteArray:=⟨#[32,101,108,115,101,32,123,10]⟩
def H0:ByteArray:=⟨#[114,101,116,117,114,110,59]⟩
def tNl:ByteArray:=⟨#[10]⟩
def p6:ByteArray:=⟨#[9]⟩
mutual
def kX (tabs:ByteArray):Sm→ByteArray
 | .gZ s e=>zq++s++Fk++ja e++jf
 | .iF s e=>s++Fk++ja e++jf
 | .dY g s l=>(if g=true then LF++s else s)++sM l++jf
 | .dB u r=>(if u=true then ou else wC)++BK r++jf
 | .lG e th el=>LD++ja e++p8++js (tabs++p6) th++tabs++kU++(if el.length=0 then ⟨#[]⟩ else zt++js (tabs++p6) el++tabs++kU)
 | .cJ e th=>xY++ja e++p8++js (tabs++p6) th++tabs++kU
 | .jC=>H0
def js (tabs:ByteArray):List Sm→ByteArray
 | []=>⟨#[]⟩
 | s::r=>tabs++kX tabs s++tNl++js tabs r
end
def JK (g:Gl):ByteArray:=zq++g.name++(if g.init=0 then ⟨#[]⟩ else Fk++lg g.init)++⟨#[59,10]⟩
def ID (m:Mx):ByteArray:=(if m.re=true then ⟨#[114]⟩ else ⟨#[]⟩)++⟨#[109,117,116,101,120,32]⟩++m.name++(if m.size=0 then ⟨#[]⟩ else ⟨#[91]⟩++lg m.size++⟨#[93]⟩)++⟨#[59,10]⟩
def uw:Bool→List Pm→ByteArray
 | _,[]=>⟨#[]⟩
 | first,p::r=>(if first=true then ⟨#[]⟩ else ⟨#[44,32]⟩)++(if p.mutex=true then ⟨#[109,117,116,101,120,32]⟩ else ⟨#[]⟩)++p.name++uw false r
def ET (f:Fu):ByteArray:=⟨#[102,117,110,99,32]⟩++f.name++⟨#[40]⟩++uw true f.params++⟨#[41,32,123,10]⟩++js p6 f.body++⟨#[125,10]⟩
def jO {α:Type}(f:α→ByteArray):List α→ByteArray
 | []=>⟨#[]⟩
 | a::r=>f a++jO f r
def D0 (p:Pg):ByteArray:=jO JK p.gs++jO ID p.ms++jO ET p.fs
def dm (s:ByteArray):Prop:=(∃ c t,bs s=c::t∧isLet c=true)∧(bs s).all fG=true∧(bs s).length≤16
def bZ (S:List UInt8→Prop)(s:ByteArray)(k b:Nat):Prop:=(bs s).length≤b∧∀ r n,S r→Lx r n→Lx (bs s++r) (n+k)
def Any (_:List UInt8):Prop:=True
theorem bZ.app {S S':List UInt8→Prop}{s s':ByteArray}{k k' b b':Nat}(h:bZ S s k b)(h':bZ S' s' k' b')(hS:∀ r,S' r→S (bs s'++r)):bZ S' (s++s') (k' + k) (b+b'):=by
 refine⟨by rw[gJ,List.length_append];have:=h.1;have:=h'.1;omega,fun r n hr hl=>?_⟩
 rw[gJ,List.append_assoc,← Nat.add_assoc]
 exact h.2 _ _ (hS r hr) (h'.2 r n hr hl)
theorem bZ.mono {S:List UInt8→Prop}{s:ByteArray}{k k' b b':Nat}(h:bZ S s k b)(hk:k≤k')(hb:b≤b'):bZ S s k' b':=
 ⟨Nat.le_trans h.1 hb,fun r n hr hl=>(h.2 r n hr hl).mono yA⟩
theorem bZ.any {s:ByteArray}{k b:Nat}(h:bZ Any s k b)(S:List UInt8→Prop):bZ S s k b:=⟨h.1,fun r n _ hl=>h.2 r n trivial hl⟩
theorem bZ.nil (S:List UInt8→Prop):bZ S ⟨#[]⟩ 0 0:=⟨Nat.le_refl _,fun _ _ _ hl=>hl⟩
theorem bZ.nm {s:ByteArray}(h:dm s):bZ Stop s 1 16:=⟨h.2.2,Jp.name h.1 h.2.1 (.inl h.2.2)⟩
theorem bZ.word {l:List UInt8}(h0:∃ c t,l=c::t∧isLet c=true)(h1:l.all fG=true)(h2:l.length≤16)(s:ByteArray)(hs:bs s=l++[32]):bZ Any s 1 17:=by
 refine⟨by rw[hs];simp;omega,fun r n _ hl=>?_⟩
 rw[hs,List.append_assoc]
 exact Jp.name h0 h1 (.inl h2) _ _ (Stop.cons _ yAe) (Lx.sp yAe hl)
theorem bZ.sign {c:UInt8}(hc:c∈mf)(h:c≠60∧c≠62∧c≠61∧c≠33∧c≠47):bZ Any ⟨#[c]⟩ 1 1:=⟨Nat.le_refl _,fun _ _ _ hl=>Lx.ym hc h hl⟩
theorem qB (n:Nat):bs (eg n)=[UInt8.ofNat n]:=rfl
theorem yN:∀ n:Nat,(bs (kf n)).all db=true∧bs (kf n)≠[]∧lq (bs (kf n))=n∧∀ b,n<10 ^ (b+1)→(bs (kf n)).length≤b+1:=by
 intro n
 induction n using Nat.strongRecOn with
 | _ n ih=>
 have hd:∀ k,k<10→db (UInt8.ofNat (48+k))=true∧(UInt8.ofNat (48+k)).toNat-48=k:=by decide
 rw[kf]
 split
 ·rename_i h
  obtain⟨a,b⟩:=hd n h
  refine⟨by rw[qB];simp only[List.all_cons,List.all_nil,a,Bool.and_self],by rw[qB];simp,by rw[qB];simp only[lq,List.foldl_cons,List.foldl_nil,b];omega,fun b hb=>by rw[qB];simp⟩
 ·rename_i h
  obtain⟨a,b⟩:=hd (n % 10) yA
  obtain⟨i1,i2,i3,i4⟩:=ih (n / 10) yA
  rw[gJ,qB]
  refine⟨by rw[List.all_append,i1];simp only[List.all_cons,List.all_nil,a,Bool.and_self],by simp,?_,fun b hb=>?_⟩
  ·unfold lq at i3 ⊢
   rw[List.foldl_append,i3]
   simp only[List.foldl_cons,List.foldl_nil,b]
   omega
  ·cases b with
   | zero=>omega
   | succ b=>
    have:=i4 b (by rw[Nat.pow_succ] at hb;omega)
    simp
    omega
theorem bZ.dig {n:Nat}(h:n<9223372036854775808):bZ Stop (kf n) 1 19:=by
 obtain⟨i1,i2,i3,i4⟩:=yN n
 exact⟨i4 18 yA,Jp.num i2 i1 (by rw[i3];exact h)⟩
def fM (ns:List ByteArray):Nat→Ex→Prop
 | _,.num n=>n<4611686018427387904
 | _,.nm s=>s∈ns
 | d+1,.un k e=>k<2∧fM ns d e
 | d+1,.bin k a b=>k<13∧fM ns d a∧fM ns d b
 | _,_=>False
def Bm:Nat→Nat
 | 0=>1
 | d+1=>2*Bm d+5
def Hd (s:ByteArray):Prop:=∃ c t,bs s=c::t∧c≠61∧c≠47
theorem Hd.app {s:ByteArray}(h:Hd s)(t:ByteArray):Hd (s++t):=by
 obtain⟨c,u,h1,h2⟩:=h
 exact⟨c,u++bs t,by rw[gJ,h1,List.cons_append],h2⟩
theorem Hd.nm {s:ByteArray}(h:dm s):Hd s:=by
 obtain⟨⟨c,t,h1,h2⟩,_⟩:=h
 refine⟨c,t,h1,?_,?_⟩<;>rintro rfl<;>revert h2<;>decide
theorem Hd.dig (n:Nat):Hd (kf n):=by
 obtain⟨i1,i2,_,_⟩:=yN n
 cases hb:bs (kf n) with
 | nil=>exact absurd hb i2
 | cons c t=>
  rw[hb] at i1
  simp only[List.all_cons,Bool.and_eq_true] at i1
  refine⟨c,t,hb,?_,?_⟩<;>rintro rfl<;>have:=i1.1<;>revert this<;>decide
theorem Hd.par {s:ByteArray}(h:Hd s)(b:Bool):Hd (sI b s):=by
 unfold sI
 split
 ·exact Hd.app (Hd.app ⟨40,[],rfl,by decide,by decide⟩ _) _
 ·exact h
theorem Hd.ex {ns:List ByteArray}(hn:∀ s∈ns,dm s):∀ (d:Nat) (e:Ex),fM ns d e→Hd (ja e)
 | _,.num n,_=>Hd.dig n
 | _,.nm s,h=>Hd.nm (hn s (by simpa [fM] using h))
 | d+1,.un k e,h=>by
  simp only[ja]
  refine Hd.app ?_ _
  split
  ·exact⟨45,[],rfl,by decide,by decide⟩
  ·exact⟨33,[],rfl,by decide,by decide⟩
 | d+1,.bin k a b,h=>by
  simp only[fM] at h
  simp only[ja]
  exact Hd.app (Hd.app (Hd.app (Hd.app (Hd.par (Hd.ex hn d a h.2.1) _) _) _) _) _
 | 0,.un _ _,h=>h.elim
 | 0,.bin _ _ _,h=>h.elim
 | 0,.zero,h=>h.elim
 | 0,.loc _,h=>h.elim
 | 0,.ji _,h=>h.elim
 | _+1,.zero,h=>h.elim
 | _+1,.loc _,h=>h.elim
 | _+1,.ji _,h=>h.elim
theorem bZ.par {s:ByteArray}{k b:Nat}(h:bZ Stop s k b)(c:Bool):bZ Stop (sI c s) (k+2) (b+2):=by
 unfold sI
 split
 ·have h1:=(bZ.sign (c:=40) yAe yAe).app h fun _ _=>trivial
  have h2:=h1.app (bZ.sign (c:=41) yAe yAe) fun r _=>Stop.cons _ yAe
  exact (h2.any Stop).mono yA yA
 ·exact h.mono yA yA
theorem bZ.op {k:Nat}(hk:k<13):bZ Any (⟨#[32]⟩++Cm.getD k ⟨#[]⟩++⟨#[32]⟩) 1 4:=by
 refine⟨?_,fun r n _ hl=>?_⟩
 ·revert k;decide
 have hl':Lx (32::r) n:=Lx.sp yAe hl
 have h1:∀ c:UInt8,c∈mf→Lx (32::c::32::r) (n+1):=fun c hc=>Lx.sp yAe (Lx.one hc yAa hl')
 have h2:∀ a b:UInt8,(a,b)∈qS→Lx (32::a::b::32::r) (n+1):=fun a b hc=>Lx.sp yAe (Lx.two hc hl')
 match k,hk with
 | 0,_=>exact h1 42 yAe
 | 1,_=>exact h1 47 yAe
 | 2,_=>exact h1 37 yAe
 | 3,_=>exact h1 43 yAe
 | 4,_=>exact h1 45 yAe
 | 5,_=>exact h1 60 yAe
 | 6,_=>exact h2 60 61 yAe
 | 7,_=>exact h1 62 yAe
 | 8,_=>exact h2 62 61 yAe
 | 9,_=>exact h2 61 61 yAe
 | 10,_=>exact h2 33 61 yAe
 | 11,_=>exact h2 38 38 yAe
 | 12,_=>exact h2 124 124 yAe
theorem s8 (d:Nat):1≤Bm d:=by cases d<;>simp[Bm]
theorem bZ.ex {ns:List ByteArray}(hn:∀ s∈ns,dm s):∀ (d:Nat) (e:Ex),fM ns d e→bZ Stop (ja e) (Bm d) (24*Bm d)
 | d,.num n,h=>by
  have h1:n<4611686018427387904:=by simpa [fM] using h
  have:=s8 d
  exact (bZ.dig (n:=n) yA).mono yA yA
 | d,.nm s,h=>by
  have:=s8 d
  exact (bZ.nm (hn s (by simpa [fM] using h))).mono yA yA
 | d+1,.un k e,h=>by
  simp only[fM] at h
  have h1:=(bZ.ex hn d e h.2).par (decide (e.st<5))
  have hh:=Hd.par (Hd.ex hn d e h.2) (decide (e.st<5))
  simp only[ja]
  have:=s8 d
  split
  ·exact ((bZ.sign (c:=45) yAe yAe).app h1 fun _ _=>trivial).mono yBe yBe
  ·refine⟨?_,fun r n hr hl=>?_⟩
   ·rw[gJ,List.length_append]
    have:=h1.1
    simp only[Bm]
    show 1+_≤_
    omega
   ·rw[gJ]
    have h2:=h1.2 r n hr hl
    obtain⟨c,t,e1,e2⟩:=hh
    rw[List.append_assoc]
    rw[e1] at h2 ⊢
    exact (Lx.one (c:=33) yAe (by rintro x hx;simp at hx;exact hx ▸ e2) h2).mono yBe
 | d+1,.bin k a b,h=>by
  simp only[fM] at h
  have ha:=(bZ.ex hn d a h.2.1).par (decide (a.st<ny (5+k)))
  have hb:=(bZ.ex hn d b h.2.2).par (decide (b.st≤ny (5+k)))
  have ho:=bZ.op h.1
  have h1:=(ha.app ho fun r _=>by
   rw[gJ,gJ]
   exact Stop.cons _ yAe).app hb fun _ _=>trivial
  simp only[ja,ByteArray.append_assoc] at h1 ⊢
  have:=s8 d
  exact h1.mono yBe yBe
 | 0,.un _ _,h=>h.elim
 | 0,.bin _ _ _,h=>h.elim
 | 0,.zero,h=>h.elim
 | 0,.loc _,h=>h.elim
 | 0,.ji _,h=>h.elim
 | _+1,.zero,h=>h.elim
 | _+1,.loc _,h=>h.elim
 | _+1,.ji _,h=>h.elim
end Go.aX
