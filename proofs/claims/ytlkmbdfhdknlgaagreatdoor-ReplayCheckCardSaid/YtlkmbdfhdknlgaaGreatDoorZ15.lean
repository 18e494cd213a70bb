/- What Lex accepts, and the text of a program as a plain funct -/
import Derived.Test.YtlkmbdfhdknlgaaGreatDoorZ14
namespace Go.aT
open Go.Can
def gD (c:UInt8):Bool:=c == 32 || c == 9 || c == 10 || c == 13
def isLet (c:UInt8):Bool:=(decide (97≤c.toNat) && decide (c.toNat≤122)) || (decide (65≤c.toNat) && decide (c.toNat≤90)) || decide (c.toNat=95)
def cB (c:UInt8):Bool:=decide (48≤c.toNat) && decide (c.toNat≤57)
def eF (c:UInt8):Bool:=isLet c || cB c
def pa:List (List UInt8):=[[118,97,114],[109,117,116,101,120],[114,109,117,116,101,120],[102,117,110,99],[108,111,99,107],[117,110,108,111,99,107],[103,111],[105,102],[101,108,115,101],[119,104,105,108,101],[114,101,116,117,114,110]]
def ky:List UInt8:=[40,41,123,125,91,93,44,59,61,43,45,42,47,37,60,62,33]
def oU:List (UInt8×UInt8):=[(60,61),(62,61),(61,61),(33,61),(38,38),(124,124)]
def jK (w:List UInt8):Nat:=w.foldl (fun n c=>10*n+(c.toNat-48)) 0
def qk:List UInt8→Nat
 | a::b::_=>if (a,b)∈oU then 2 else if a∈ky then 1 else 0
 | [a]=>if a∈ky then 1 else 0
 | []=>0
inductive Lx:List UInt8→Nat→Prop
 | nil (n:Nat):Lx [] n
 | sp {c:UInt8} {r:List UInt8} {n:Nat}:gD c=true→Lx r n→Lx (c::r) n
 | nm {c:UInt8} {r:List UInt8} {n:Nat}:isLet c=true→(((c::r).takeWhile eF).length≤16∨(c::r).takeWhile eF∈pa)→Lx ((c::r).dropWhile eF) n→Lx (c::r) (n+1)
 | num {c:UInt8} {r:List UInt8} {n:Nat}:cB c=true→jK ((c::r).takeWhile cB)<9223372036854775808→Lx ((c::r).dropWhile cB) n→Lx (c::r) (n+1)
 | sg {c:UInt8} {r:List UInt8} {n:Nat}:isLet c=false→cB c=false→gD c=false→(c=47→r.head?≠some 47)→0<qk (c::r)→Lx ((c::r).drop (qk (c::r))) n→Lx (c::r) (n+1)
theorem Lx.mono {r:List UInt8}{n m:Nat}(h:Lx r n)(hm:n≤m):Lx r m:=by
 induction h generalizing m with
 | nil=>exact .nil _
 | sp a _ ih=>exact .sp a (ih hm)
 | nm a b _ ih=>
  obtain⟨k,rfl⟩:∃ k,m=k+1:=⟨m-1,by omega⟩;exact .nm a b (ih yA)
 | num a b _ ih=>
  obtain⟨k,rfl⟩:∃ k,m=k+1:=⟨m-1,by omega⟩;exact .num a b (ih yA)
 | sg a b c d e _ ih=>
  obtain⟨k,rfl⟩:∃ k,m=k+1:=⟨m-1,by omega⟩;exact .sg a b c d e (ih yA)
def Stop (r:List UInt8):Prop:=∀ c,r.head? = some c→eF c=false∧c≠61∧c≠47
theorem iN {p:UInt8→Bool}:∀ (w r:List UInt8),(w.all p=true)→(∀ c,r.head? = some c→p c=false)→(w++r).takeWhile p=w∧(w++r).dropWhile p=r
 | [],r,_,h=>by
  cases r with
  | nil=>exact⟨rfl,rfl⟩
  | cons c r=>
   have:=h c rfl;simp[this]
 | a::w,r,ha,h=>by
  simp only[List.all_cons,Bool.and_eq_true] at ha;obtain⟨h1,h2⟩:=iN w r ha.2 h;constructor
  ·rw[List.cons_append,List.takeWhile_cons,if_pos ha.1,h1]
  ·rw[List.cons_append,List.dropWhile_cons,if_pos ha.1,h2]
def Tok (s:List UInt8)(k:Nat):Prop:=∀ r n,Stop r→Lx r n→Lx (s++r) (n+k)
theorem Tok.name {s:List UInt8}(h0:∃ c t,s=c::t∧isLet c=true)(h1:s.all eF=true)(h2:s.length≤16∨s∈pa):Tok s 1:=by
 intro r n hr hl;obtain⟨c,t,rfl,hc⟩:=h0;obtain⟨e1,e2⟩:=iN (c::t) r h1 fun x hx=>(hr x hx).1;rw[List.cons_append] at e1 e2 ⊢;exact Lx.nm hc (by rw[e1];exact h2) (by rw[e2];exact hl)
theorem Tok.num {s:List UInt8}(h0:s≠[])(h1:s.all cB=true)(h2:jK s<9223372036854775808):Tok s 1:=by
 intro r n hr hl
 cases s with
 | nil=>exact absurd rfl h0
 | cons c t=>
  have hd:∀ x,r.head? = some x→cB x=false:=fun x hx=>by
   have:=(hr x hx).1;simp only[eF,Bool.or_eq_false_iff] at this;exact this.2
  obtain⟨e1,e2⟩:=iN (c::t) r h1 hd;simp only[List.all_cons,Bool.and_eq_true] at h1;rw[List.cons_append] at e1 e2 ⊢;exact Lx.num h1.1 (by rw[e1];exact h2) (by rw[e2];exact hl)
theorem Lx.one {c:UInt8}{r:List UInt8}{n:Nat}(hc:c∈ky)(hr:∀ x,r.head? = some x→x≠61∧x≠47)(hl:Lx r n):Lx (c::r) (n+1):=by
 have hx:(∀ b,(c,b)∈oU→b=61):=by
  intro b hb;simp only[ky,List.mem_cons,List.not_mem_nil,or_false] at hc;rcases hc with rfl | rfl | rfl | rfl | rfl | rfl | rfl | rfl | rfl | rfl | rfl | rfl | rfl | rfl | rfl | rfl | rfl<;>simp_all [oU]
 have hs:qk (c::r)=1:=by
  cases r with
  | nil=>simp[qk,hc]
  | cons b t=>
   have hb:(c,b)∉oU:=fun h=>(hr b rfl).1 (hx b h);simp[qk,hc,hb]
 have h3:isLet c=false∧cB c=false∧gD c=false:=by
  simp only[ky,List.mem_cons,List.not_mem_nil,or_false] at hc;rcases hc with rfl | rfl | rfl | rfl | rfl | rfl | rfl | rfl | rfl | rfl | rfl | rfl | rfl | rfl | rfl | rfl | rfl<;>decide
 refine Lx.sg h3.1 h3.2.1 h3.2.2 (fun _ h=>(hr 47 h).2 rfl) (by rw[hs];exact Nat.one_pos) ?_;rw[hs];exact hl
theorem Lx.uT {c:UInt8}{r:List UInt8}{n:Nat}(hc:c∈ky)(h:c≠60∧c≠62∧c≠61∧c≠33∧c≠47)(hl:Lx r n):Lx (c::r) (n+1):=by
 have hs:qk (c::r)=1:=by
  cases r with
  | nil=>simp[qk,hc]
  | cons b t=>
   have hb:(c,b)∉oU:=by
    simp only[ky,List.mem_cons,List.not_mem_nil,or_false] at hc;rcases hc with rfl | rfl | rfl | rfl | rfl | rfl | rfl | rfl | rfl | rfl | rfl | rfl | rfl | rfl | rfl | rfl | rfl<;>simp_all [oU]
   simp[qk,hc,hb]
 have h3:isLet c=false∧cB c=false∧gD c=false:=by
  simp only[ky,List.mem_cons,List.not_mem_nil,or_false] at hc;rcases hc with rfl | rfl | rfl | rfl | rfl | rfl | rfl | rfl | rfl | rfl | rfl | rfl | rfl | rfl | rfl | rfl | rfl<;>decide
 refine Lx.sg h3.1 h3.2.1 h3.2.2 (fun e=>absurd e h.2.2.2.2) (by rw[hs];exact Nat.one_pos) ?_;rw[hs];exact hl
theorem Lx.two {a b:UInt8}{r:List UInt8}{n:Nat}(hc:(a,b)∈oU)(hl:Lx r n):Lx (a::b::r) (n+1):=by
 have hs:qk (a::b::r)=2:=by simp[qk,hc]
 have h3:isLet a=false∧cB a=false∧gD a=false∧a≠47:=by
  simp only[oU,List.mem_cons,List.not_mem_nil,or_false,Prod.mk.injEq] at hc;rcases hc with ⟨rfl,_⟩ | ⟨rfl,_⟩ | ⟨rfl,_⟩ | ⟨rfl,_⟩ | ⟨rfl,_⟩ | ⟨rfl,_⟩<;>decide
 refine Lx.sg h3.1 h3.2.1 h3.2.2.1 (fun e=>absurd e h3.2.2.2) (by rw[hs];omega) ?_;rw[hs];exact hl
theorem Stop.cons {c:UInt8}(r:List UInt8)(h:eF c=false∧c≠61∧c≠47):Stop (c::r):=by
 intro x hx;simp only[List.head?_cons,Option.some.injEq] at hx;exact hx ▸ h
theorem Lx.inv {c:UInt8}{r:List UInt8}{n:Nat}(h:Lx (c::r) n)(hs:gD c=false):∃ m,n=m+1∧
  ((isLet c=true∧(((c::r).takeWhile eF).length≤16∨(c::r).takeWhile eF∈pa)∧Lx ((c::r).dropWhile eF) m)∨
   (isLet c=false∧cB c=true∧jK ((c::r).takeWhile cB)<9223372036854775808∧Lx ((c::r).dropWhile cB) m)∨
   (isLet c=false∧cB c=false∧(c=47→r.head?≠some 47)∧0<qk (c::r)∧Lx ((c::r).drop (qk (c::r))) m)):=by
 cases h with
 | sp a _=>rw[a] at hs;cases hs
 | nm a b d=>exact⟨_,rfl,.inl ⟨a,b,d⟩⟩
 | num a b d=>
  have hn:isLet c=false:=by
   simp only[cB,Bool.and_eq_true,decide_eq_true_eq] at a;simp only[isLet,Bool.or_eq_false_iff,Bool.and_eq_false_iff,decide_eq_false_iff_not];omega
  exact⟨_,rfl,.inr (.inl ⟨hn,a,b,d⟩)⟩
 | sg a b d e f g=>exact⟨_,rfl,.inr (.inr ⟨a,b,e,f,g⟩)⟩
def oM (l:List UInt8):Nat:=(l.takeWhile gD).length
theorem Lx.skip {r:List UInt8}{n:Nat}(h:Lx r n):Lx (r.drop (oM r)) n:=by
 induction h with
 | nil n=>exact .nil n
 | @sp c r n a b ih=>
  have:oM (c::r)=oM r+1:=by simp[oM,a]
  rw[this,List.drop_succ_cons];exact ih
 | @nm c r n a b d _=>
  have hs:gD c=false:=by
   simp only[isLet,Bool.or_eq_true,Bool.and_eq_true,decide_eq_true_eq] at a
   cases h:gD c with
   | false=>rfl
   | true=>
    simp only[gD,Bool.or_eq_true,beq_iff_eq] at h;rcases h with ((rfl | rfl) | rfl) | rfl<;>revert a<;>decide
  have:oM (c::r)=0:=by simp[oM,hs]
  rw[this];exact .nm a b d
 | @num c r n a b d _=>
  have hs:gD c=false:=by
   simp only[cB,Bool.and_eq_true,decide_eq_true_eq] at a
   cases h:gD c with
   | false=>rfl
   | true=>
    simp only[gD,Bool.or_eq_true,beq_iff_eq] at h;rcases h with ((rfl | rfl) | rfl) | rfl<;>revert a<;>decide
  have:oM (c::r)=0:=by simp[oM,hs]
  rw[this];exact .num a b d
 | @sg c r n a b d e f g _=>
  have:oM (c::r)=0:=by simp[oM,d]
  rw[this];exact .sg a b d e f g
theorem vW {l:List UInt8}{c:UInt8}(h:(l.drop (oM l)).head? = some c):gD c=false:=by
 unfold oM at h
 induction l with
 | nil=>simp at h
 | cons a r ih=>
  cases ha:gD a with
  | true=>
   simp only[List.takeWhile_cons,ha,if_true,List.length_cons,List.drop_succ_cons] at h;exact ih h
  | false=>
   simp only[List.takeWhile_cons,ha] at h;simp at h;rw[← h];exact ha
def bs (s:ByteArray):List UInt8:=s.data.toList
theorem fz (a b:ByteArray):bs (a++b)=bs a++bs b:=by simp[bs,ByteArray.data_append]
theorem bs_mk (l:List UInt8):bs ⟨l.toArray⟩=l:=by simp[bs]
def iX (n:Nat):ByteArray:=if n<10 then dr (48+n) else iX (n / 10)++dr (48+n % 10)
termination_by n
decreasing_by omega
def jC (n:Int):ByteArray:=if n<0 then ⟨#[45]⟩++iX (-n).toNat else iX n.toNat
def lk (op:Nat):Nat:=if op=17 then 0 else if op=16 then 1 else if 10≤op∧op≤15 then 2 else if op=8∨op=9 then 3 else if 5≤op∧op≤7 then 4 else if op=3∨op=4 then 5 else 6
def Ex.j4:Ex→Nat
 | .zero=>0
 | .num _=>1
 | .nm _=>2
 | .un k _=>3+k
 | .bin k _ _=>5+k
 | .loc _=>18
 | .iV _=>19
def Ex.st (e:Ex):Nat:=lk e.j4
def qa (b:Bool)(x:ByteArray):ByteArray:=if b=true then ⟨#[40]⟩++x++⟨#[41]⟩ else x
def zl:List ByteArray:=[⟨#[42]⟩,⟨#[47]⟩,⟨#[37]⟩,⟨#[43]⟩,⟨#[45]⟩,⟨#[60]⟩,⟨#[60,61]⟩,⟨#[62]⟩,⟨#[62,61]⟩,⟨#[61,61]⟩,⟨#[33,61]⟩,⟨#[38,38]⟩,⟨#[124,124]⟩]
def gJ:Ex→ByteArray
 | .num n=>iX n
 | .nm s=>s
 | .un k e=>(if k=0 then ⟨#[45]⟩ else ⟨#[33]⟩)++qa (decide (e.st<5)) (gJ e)
 | .bin k a b=>qa (decide (a.st<lk (5+k))) (gJ a)++⟨#[32]⟩++zl.getD k ⟨#[]⟩++⟨#[32]⟩++qa (decide (b.st≤lk (5+k))) (gJ b)
 | _=>⟨#[]⟩
def yL (r:Rf):ByteArray:=match r.index with
 | none=>r.name
 | some e=>r.name++⟨#[91]⟩++gJ e++⟨#[93]⟩
def JJ:Ar→ByteArray
 | .ru r=>⟨#[109,117,116,101,120,32]⟩++yL r
 | .exp e=>gJ e
def sd:Bool→List Ar→ByteArray
 | _,[]=>⟨#[]⟩
 | first,a::r=>(if first=true then ⟨#[]⟩ else ⟨#[44,32]⟩)++JJ a++sd false r
def qe (l:List Ar):ByteArray:=⟨#[40]⟩++sd true l++⟨#[41]⟩
def vS:ByteArray:=⟨#[118,97,114,32]⟩
def Cq:ByteArray:=⟨#[32,61,32]⟩
def gQ:ByteArray:=⟨#[59]⟩
def IU:ByteArray:=⟨#[103,111,32]⟩
def sX:ByteArray:=⟨#[108,111,99,107,32]⟩
def lR:ByteArray:=⟨#[117,110,108,111,99,107,32]⟩
def IT:ByteArray:=⟨#[105,102,32]⟩
def uy:ByteArray:=⟨#[119,104,105,108,101,32]⟩
def nQ:ByteArray:=⟨#[32,123,10]⟩
def jt:ByteArray:=⟨#[125]⟩
def vU:ByteArray:=⟨#[32,101,108,115,101,32,123,10]⟩
def EY:ByteArray:=⟨#[114,101,116,117,114,110,59]⟩
def tNl:ByteArray:=⟨#[10]⟩
def nN:ByteArray:=⟨#[9]⟩
mutual
def ju (m9:ByteArray):Sm→ByteArray
 | .fN s e=>vS++s++Cq++gJ e++gQ
 | .gz s e=>s++Cq++gJ e++gQ
 | .dm g s l=>(if g=true then IU++s else s)++qe l++gQ
 | .cR u r=>(if u=true then lR else sX)++yL r++gQ
 | .jS e th el=>IT++gJ e++nQ++g6 (m9++nN) th++m9++jt++(if el.length=0 then ⟨#[]⟩ else vU++g6 (m9++nN) el++m9++jt)
 | .cb e th=>uy++gJ e++nQ++g6 (m9++nN) th++m9++jt
 | .ia=>EY
def g6 (m9:ByteArray):List Sm→ByteArray
 | []=>⟨#[]⟩
 | s::r=>m9++ju m9 s++tNl++g6 m9 r
end
def GL (g:Gl):ByteArray:=vS++g.name++(if g.init=0 then ⟨#[]⟩ else Cq++jC g.init)++⟨#[59,10]⟩
def FF (m:Mx):ByteArray:=(if m.re=true then ⟨#[114]⟩ else ⟨#[]⟩)++⟨#[109,117,116,101,120,32]⟩++m.name++(if m.size=0 then ⟨#[]⟩ else ⟨#[91]⟩++jC m.size++⟨#[93]⟩)++⟨#[59,10]⟩
def qZ:Bool→List Pm→ByteArray
 | _,[]=>⟨#[]⟩
 | first,p::r=>(if first=true then ⟨#[]⟩ else ⟨#[44,32]⟩)++(if p.mutex=true then ⟨#[109,117,116,101,120,32]⟩ else ⟨#[]⟩)++p.name++qZ false r
def BV (f:Fu):ByteArray:=⟨#[102,117,110,99,32]⟩++f.name++⟨#[40]⟩++qZ true f.params++⟨#[41,32,123,10]⟩++g6 nN f.body++⟨#[125,10]⟩
def iw {α:Type}(f:α→ByteArray):List α→ByteArray
 | []=>⟨#[]⟩
 | a::r=>f a++iw f r
def Ba (p:Pg):ByteArray:=iw GL p.gs++iw FF p.ms++iw BV p.fs
def cJ (s:ByteArray):Prop:=(∃ c t,bs s=c::t∧isLet c=true)∧(bs s).all eF=true∧(bs s).length≤16
def bN (S:List UInt8→Prop)(s:ByteArray)(k b:Nat):Prop:=(bs s).length≤b∧∀ r n,S r→Lx r n→Lx (bs s++r) (n+k)
def Any (_:List UInt8):Prop:=True
theorem bN.app {S S':List UInt8→Prop}{s s':ByteArray}{k k' b b':Nat}(h:bN S s k b)(h':bN S' s' k' b')(hS:∀ r,S' r→S (bs s'++r)):bN S' (s++s') (k' + k) (b+b'):=by
 refine⟨by rw[fz,List.length_append];have:=h.1;have:=h'.1;omega,fun r n hr hl=>?_⟩;rw[fz,List.append_assoc,← Nat.add_assoc];exact h.2 _ _ (hS r hr) (h'.2 r n hr hl)
theorem bN.mono {S:List UInt8→Prop}{s:ByteArray}{k k' b b':Nat}(h:bN S s k b)(hk:k≤k')(hb:b≤b'):bN S s k' b':=
 ⟨Nat.le_trans h.1 hb,fun r n hr hl=>(h.2 r n hr hl).mono yA⟩
theorem bN.any {s:ByteArray}{k b:Nat}(h:bN Any s k b)(S:List UInt8→Prop):bN S s k b:=⟨h.1,fun r n _ hl=>h.2 r n trivial hl⟩
theorem bN.nil (S:List UInt8→Prop):bN S ⟨#[]⟩ 0 0:=⟨Nat.le_refl _,fun _ _ _ hl=>hl⟩
theorem bN.nm {s:ByteArray}(h:cJ s):bN Stop s 1 16:=⟨h.2.2,Tok.name h.1 h.2.1 (.inl h.2.2)⟩
theorem bN.word {l:List UInt8}(h0:∃ c t,l=c::t∧isLet c=true)(h1:l.all eF=true)(h2:l.length≤16)(s:ByteArray)(hs:bs s=l++[32]):bN Any s 1 17:=by
 refine⟨by rw[hs];simp;omega,fun r n _ hl=>?_⟩;rw[hs,List.append_assoc];exact Tok.name h0 h1 (.inl h2) _ _ (Stop.cons _ Fk) (Lx.sp Fk hl)
theorem bN.sign {c:UInt8}(hc:c∈ky)(h:c≠60∧c≠62∧c≠61∧c≠33∧c≠47):bN Any ⟨#[c]⟩ 1 1:=⟨Nat.le_refl _,fun _ _ _ hl=>Lx.uT hc h hl⟩
theorem oC (n:Nat):bs (dr n)=[UInt8.ofNat n]:=rfl
theorem vi:∀ n:Nat,(bs (iX n)).all cB=true∧bs (iX n)≠[]∧jK (bs (iX n))=n∧∀ b,n<10 ^ (b+1)→(bs (iX n)).length≤b+1:=by
 intro n
 induction n using Nat.strongRecOn with
 | _ n ih=>
 have hd:∀ k,k<10→cB (UInt8.ofNat (48+k))=true∧(UInt8.ofNat (48+k)).toNat-48=k:=by decide
 rw[iX];split
 ·rename_i h;obtain⟨a,b⟩:=hd n h;refine⟨by rw[oC];simp only[List.all_cons,List.all_nil,a,Bool.and_self],by rw[oC];simp,by rw[oC];simp only[jK,List.foldl_cons,List.foldl_nil,b];omega,fun b hb=>by rw[oC];simp⟩
 ·rename_i h;obtain⟨a,b⟩:=hd (n % 10) yA;obtain⟨i1,i2,i3,i4⟩:=ih (n / 10) yA;rw[fz,oC];refine⟨by rw[List.all_append,i1];simp only[List.all_cons,List.all_nil,a,Bool.and_self],by simp,?_,fun b hb=>?_⟩
  ·unfold jK at i3 ⊢;rw[List.foldl_append,i3];simp only[List.foldl_cons,List.foldl_nil,b];omega
  ·cases b with
   | zero=>omega
   | succ b=>
    have:=i4 b (by rw[Nat.pow_succ] at hb;omega);simp;omega
theorem bN.dig {n:Nat}(h:n<9223372036854775808):bN Stop (iX n) 1 19:=by
 obtain⟨i1,i2,i3,i4⟩:=vi n;exact⟨i4 18 yA,Tok.num i2 i1 (by rw[i3];exact h)⟩
def eO (ns:List ByteArray):Nat→Ex→Prop
 | _,.num n=>n<4611686018427387904
 | _,.nm s=>s∈ns
 | d+1,.un k e=>k<2∧eO ns d e
 | d+1,.bin k a b=>k<13∧eO ns d a∧eO ns d b
 | _,_=>False
def yi:Nat→Nat
 | 0=>1
 | d+1=>2*yi d+5
def Hd (s:ByteArray):Prop:=∃ c t,bs s=c::t∧c≠61∧c≠47
theorem Hd.app {s:ByteArray}(h:Hd s)(t:ByteArray):Hd (s++t):=by
 obtain⟨c,u,h1,h2⟩:=h;exact⟨c,u++bs t,by rw[fz,h1,List.cons_append],h2⟩
theorem Hd.nm {s:ByteArray}(h:cJ s):Hd s:=by
 obtain⟨⟨c,t,h1,h2⟩,_⟩:=h;refine⟨c,t,h1,?_,?_⟩<;>rintro rfl<;>revert h2<;>decide
theorem Hd.dig (n:Nat):Hd (iX n):=by
 obtain⟨i1,i2,_,_⟩:=vi n
 cases hb:bs (iX n) with
 | nil=>exact absurd hb i2
 | cons c t=>
  rw[hb] at i1;simp only[List.all_cons,Bool.and_eq_true] at i1;refine⟨c,t,hb,?_,?_⟩<;>rintro rfl<;>have:=i1.1<;>revert this<;>decide
theorem Hd.par {s:ByteArray}(h:Hd s)(b:Bool):Hd (qa b s):=by
 unfold qa;split
 ·exact Hd.app (Hd.app ⟨40,[],rfl,by decide,by decide⟩ _) _
 ·exact h
theorem Hd.ex {ns:List ByteArray}(hn:∀ s∈ns,cJ s):∀ (d:Nat) (e:Ex),eO ns d e→Hd (gJ e)
 | _,.num n,_=>Hd.dig n
 | _,.nm s,h=>Hd.nm (hn s (by simpa [eO] using h))
 | d+1,.un k e,h=>by
  simp only[gJ];refine Hd.app ?_ _;split
  ·exact⟨45,[],rfl,by decide,by decide⟩
  ·exact⟨33,[],rfl,by decide,by decide⟩
 | d+1,.bin k a b,h=>by
  simp only[eO] at h;simp only[gJ];exact Hd.app (Hd.app (Hd.app (Hd.app (Hd.par (Hd.ex hn d a h.2.1) _) _) _) _) _
 | 0,.un _ _,h=>h.elim
 | 0,.bin _ _ _,h=>h.elim
 | 0,.zero,h=>h.elim
 | 0,.loc _,h=>h.elim
 | 0,.iV _,h=>h.elim
 | _+1,.zero,h=>h.elim
 | _+1,.loc _,h=>h.elim
 | _+1,.iV _,h=>h.elim
theorem bN.par {s:ByteArray}{k b:Nat}(h:bN Stop s k b)(c:Bool):bN Stop (qa c s) (k+2) (b+2):=by
 unfold qa;split
 ·have h1:=(bN.sign (c:=40) Fk Fk).app h fun _ _=>trivial;have h2:=h1.app (bN.sign (c:=41) Fk Fk) fun r _=>Stop.cons _ Fk;exact (h2.any Stop).mono yA yA
 ·exact h.mono yA yA
theorem bN.op {k:Nat}(hk:k<13):bN Any (⟨#[32]⟩++zl.getD k ⟨#[]⟩++⟨#[32]⟩) 1 4:=by
 refine⟨?_,fun r n _ hl=>?_⟩
 ·revert k;decide
 have N5:Lx (32::r) n:=Lx.sp Fk hl;have h1:∀ c:UInt8,c∈ky→Lx (32::c::32::r) (n+1):=fun c hc=>Lx.sp Fk (Lx.one hc j5 N5);have h2:∀ a b:UInt8,(a,b)∈oU→Lx (32::a::b::32::r) (n+1):=fun a b hc=>Lx.sp Fk (Lx.two hc N5)
 match k,hk with
 | 0,_=>exact h1 42 Fk
 | 1,_=>exact h1 47 Fk
 | 2,_=>exact h1 37 Fk
 | 3,_=>exact h1 43 Fk
 | 4,_=>exact h1 45 Fk
 | 5,_=>exact h1 60 Fk
 | 6,_=>exact h2 60 61 Fk
 | 7,_=>exact h1 62 Fk
 | 8,_=>exact h2 62 61 Fk
 | 9,_=>exact h2 61 61 Fk
 | 10,_=>exact h2 33 61 Fk
 | 11,_=>exact h2 38 38 Fk
 | 12,_=>exact h2 124 124 Fk
theorem qu (d:Nat):1≤yi d:=by cases d<;>simp[yi]
theorem bN.ex {ns:List ByteArray}(hn:∀ s∈ns,cJ s):∀ (d:Nat) (e:Ex),eO ns d e→bN Stop (gJ e) (yi d) (24*yi d)
 | d,.num n,h=>by
  have h1:n<4611686018427387904:=by simpa [eO] using h
  have:=qu d;exact (bN.dig (n:=n) yA).mono yA yA
 | d,.nm s,h=>by
  have:=qu d;exact (bN.nm (hn s (by simpa [eO] using h))).mono yA yA
 | d+1,.un k e,h=>by
  simp only[eO] at h;have h1:=(bN.ex hn d e h.2).par (decide (e.st<5));have hh:=Hd.par (Hd.ex hn d e h.2) (decide (e.st<5));simp only[gJ];have:=qu d;split
  ·exact ((bN.sign (c:=45) Fk Fk).app h1 fun _ _=>trivial).mono O2 O2
  ·refine⟨?_,fun r n hr hl=>?_⟩
   ·rw[fz,List.length_append];have:=h1.1;simp only[yi];show 1+_≤_;omega
   ·rw[fz];have h2:=h1.2 r n hr hl;obtain⟨c,t,e1,e2⟩:=hh;rw[List.append_assoc];rw[e1] at h2 ⊢;exact (Lx.one (c:=33) Fk (by rintro x hx;simp at hx;exact hx ▸ e2) h2).mono O2
 | d+1,.bin k a b,h=>by
  simp only[eO] at h;have ha:=(bN.ex hn d a h.2.1).par (decide (a.st<lk (5+k)));have hb:=(bN.ex hn d b h.2.2).par (decide (b.st≤lk (5+k)));have ho:=bN.op h.1;have h1:=(ha.app ho fun r _=>by
   rw[fz,fz];exact Stop.cons _ Fk).app hb fun _ _=>trivial
  simp only[gJ,ByteArray.append_assoc] at h1 ⊢;have:=qu d;exact h1.mono O2 O2
 | 0,.un _ _,h=>h.elim
 | 0,.bin _ _ _,h=>h.elim
 | 0,.zero,h=>h.elim
 | 0,.loc _,h=>h.elim
 | 0,.iV _,h=>h.elim
 | _+1,.zero,h=>h.elim
 | _+1,.loc _,h=>h.elim
 | _+1,.iV _,h=>h.elim
end Go.aT
