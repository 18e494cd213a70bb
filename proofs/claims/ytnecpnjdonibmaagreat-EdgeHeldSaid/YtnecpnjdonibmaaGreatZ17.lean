/- What Lex accepts, and the text of a program as a plain funct -/
import Derived.Test.YtnecpnjdonibmaaGreatZ16
namespace Go.aP
open Go.Can
def iJ (c:UInt8):Bool:=c == 32 || c == 9 || c == 10 || c == 13
def isLet (c:UInt8):Bool:=(decide (97≤c.toNat) && decide (c.toNat≤122)) || (decide (65≤c.toNat) && decide (c.toNat≤90)) || decide (c.toNat=95)
def da (c:UInt8):Bool:=decide (48≤c.toNat) && decide (c.toNat≤57)
def fK (c:UInt8):Bool:=isLet c || da c
def rV:List (List UInt8):=[[118,97,114],[109,117,116,101,120],[114,109,117,116,101,120],[102,117,110,99],[108,111,99,107],[117,110,108,111,99,107],[103,111],[105,102],[101,108,115,101],[119,104,105,108,101],[114,101,116,117,114,110]]
def me:List UInt8:=[40,41,123,125,91,93,44,59,61,43,45,42,47,37,60,62,33]
def rH:List (UInt8×UInt8):=[(60,61),(62,61),(61,61),(33,61),(38,38),(124,124)]
def ly (w:List UInt8):Nat:=w.foldl (fun n c=>10*n+(c.toNat-48)) 0
def uf:List UInt8→Nat
 | a::b::_=>if (a,b)∈rH then 2 else if a∈me then 1 else 0
 | [a]=>if a∈me then 1 else 0
 | []=>0
inductive Lx:List UInt8→Nat→Prop
 | nil (n:Nat):Lx [] n
 | sp {c:UInt8} {r:List UInt8} {n:Nat}:iJ c=true→Lx r n→Lx (c::r) n
 | nm {c:UInt8} {r:List UInt8} {n:Nat}:isLet c=true→(((c::r).takeWhile fK).length≤16∨(c::r).takeWhile fK∈rV)→Lx ((c::r).dropWhile fK) n→Lx (c::r) (n+1)
 | num {c:UInt8} {r:List UInt8} {n:Nat}:da c=true→ly ((c::r).takeWhile da)<9223372036854775808→Lx ((c::r).dropWhile da) n→Lx (c::r) (n+1)
 | sg {c:UInt8} {r:List UInt8} {n:Nat}:isLet c=false→da c=false→iJ c=false→(c=47→r.head?≠some 47)→0<uf (c::r)→Lx ((c::r).drop (uf (c::r))) n→Lx (c::r) (n+1)
theorem Lx.mono {r:List UInt8}{n m:Nat}(h:Lx r n)(hm:n≤m):Lx r m:=by
 induction h generalizing m with
 | nil=>exact .nil _
 | sp a _ ih=>exact .sp a (ih hm)
 | nm a b _ ih=>
  obtain⟨k,rfl⟩:∃ k,m=k+1:=⟨m-1,by omega⟩;exact .nm a b (ih yA)
 | num a b _ ih=>
  obtain⟨k,rfl⟩:∃ k,m=k+1:=⟨m-1,by omega⟩;exact .num a b (ih yA)
 | sg a b c d e _ ih=>
  obtain⟨k,rfl⟩:∃ k,m=k+1:=⟨m-1,by omega⟩;exact .sg a b c d e (ih yA)
def Stop (r:List UInt8):Prop:=∀ c,r.head? = some c→fK c=false∧c≠61∧c≠47
theorem j0 {p:UInt8→Bool}:∀ (w r:List UInt8),(w.all p=true)→(∀ c,r.head? = some c→p c=false)→(w++r).takeWhile p=w∧(w++r).dropWhile p=r
 | [],r,_,h=>by
  cases r with
  | nil=>exact⟨rfl,rfl⟩
  | cons c r=>
   have:=h c rfl;simp[this]
 | a::w,r,ha,h=>by
  simp only[List.all_cons,Bool.and_eq_true] at ha;obtain⟨h1,h2⟩:=j0 w r ha.2 h;constructor
  ·rw[List.cons_append,List.takeWhile_cons,if_pos ha.1,h1]
  ·rw[List.cons_append,List.dropWhile_cons,if_pos ha.1,h2]
def Li (s:List UInt8)(k:Nat):Prop:=∀ r n,Stop r→Lx r n→Lx (s++r) (n+k)
theorem Li.name {s:List UInt8}(h0:∃ c t,s=c::t∧isLet c=true)(h1:s.all fK=true)(h2:s.length≤16∨s∈rV):Li s 1:=by
 intro r n hr hl;obtain⟨c,t,rfl,hc⟩:=h0;obtain⟨e1,e2⟩:=j0 (c::t) r h1 fun x hx=>(hr x hx).1;rw[List.cons_append] at e1 e2 ⊢;exact Lx.nm hc (by rw[e1];exact h2) (by rw[e2];exact hl)
theorem Li.num {s:List UInt8}(h0:s≠[])(h1:s.all da=true)(h2:ly s<9223372036854775808):Li s 1:=by
 intro r n hr hl
 cases s with
 | nil=>exact absurd rfl h0
 | cons c t=>
  have hd:∀ x,r.head? = some x→da x=false:=fun x hx=>by
   have:=(hr x hx).1;simp only[fK,Bool.or_eq_false_iff] at this;exact this.2
  obtain⟨e1,e2⟩:=j0 (c::t) r h1 hd;simp only[List.all_cons,Bool.and_eq_true] at h1;rw[List.cons_append] at e1 e2 ⊢;exact Lx.num h1.1 (by rw[e1];exact h2) (by rw[e2];exact hl)
theorem Lx.one {c:UInt8}{r:List UInt8}{n:Nat}(hc:c∈me)(hr:∀ x,r.head? = some x→x≠61∧x≠47)(hl:Lx r n):Lx (c::r) (n+1):=by
 have hx:(∀ b,(c,b)∈rH→b=61):=by
  intro b hb;simp only[me,List.mem_cons,List.not_mem_nil,or_false] at hc;rcases hc with rfl | rfl | rfl | rfl | rfl | rfl | rfl | rfl | rfl | rfl | rfl | rfl | rfl | rfl | rfl | rfl | rfl<;>simp_all [rH]
 have hs:uf (c::r)=1:=by
  cases r with
  | nil=>simp[uf,hc]
  | cons b t=>
   have hb:(c,b)∉rH:=fun h=>(hr b rfl).1 (hx b h);simp[uf,hc,hb]
 have h3:isLet c=false∧da c=false∧iJ c=false:=by
  simp only[me,List.mem_cons,List.not_mem_nil,or_false] at hc;rcases hc with rfl | rfl | rfl | rfl | rfl | rfl | rfl | rfl | rfl | rfl | rfl | rfl | rfl | rfl | rfl | rfl | rfl<;>decide
 refine Lx.sg h3.1 h3.2.1 h3.2.2 (fun _ h=>(hr 47 h).2 rfl) (by rw[hs];exact Nat.one_pos) ?_;rw[hs];exact hl
theorem Lx.zg {c:UInt8}{r:List UInt8}{n:Nat}(hc:c∈me)(h:c≠60∧c≠62∧c≠61∧c≠33∧c≠47)(hl:Lx r n):Lx (c::r) (n+1):=by
 have hs:uf (c::r)=1:=by
  cases r with
  | nil=>simp[uf,hc]
  | cons b t=>
   have hb:(c,b)∉rH:=by
    simp only[me,List.mem_cons,List.not_mem_nil,or_false] at hc;rcases hc with rfl | rfl | rfl | rfl | rfl | rfl | rfl | rfl | rfl | rfl | rfl | rfl | rfl | rfl | rfl | rfl | rfl<;>simp_all [rH]
   simp[uf,hc,hb]
 have h3:isLet c=false∧da c=false∧iJ c=false:=by
  simp only[me,List.mem_cons,List.not_mem_nil,or_false] at hc;rcases hc with rfl | rfl | rfl | rfl | rfl | rfl | rfl | rfl | rfl | rfl | rfl | rfl | rfl | rfl | rfl | rfl | rfl<;>decide
 refine Lx.sg h3.1 h3.2.1 h3.2.2 (fun e=>absurd e h.2.2.2.2) (by rw[hs];exact Nat.one_pos) ?_;rw[hs];exact hl
theorem Lx.two {a b:UInt8}{r:List UInt8}{n:Nat}(hc:(a,b)∈rH)(hl:Lx r n):Lx (a::b::r) (n+1):=by
 have hs:uf (a::b::r)=2:=by simp[uf,hc]
 have h3:isLet a=false∧da a=false∧iJ a=false∧a≠47:=by
  simp only[rH,List.mem_cons,List.not_mem_nil,or_false,Prod.mk.injEq] at hc;rcases hc with ⟨rfl,_⟩ | ⟨rfl,_⟩ | ⟨rfl,_⟩ | ⟨rfl,_⟩ | ⟨rfl,_⟩ | ⟨rfl,_⟩<;>decide
 refine Lx.sg h3.1 h3.2.1 h3.2.2.1 (fun e=>absurd e h3.2.2.2) (by rw[hs];omega) ?_;rw[hs];exact hl
theorem Stop.cons {c:UInt8}(r:List UInt8)(h:fK c=false∧c≠61∧c≠47):Stop (c::r):=by
 intro x hx;simp only[List.head?_cons,Option.some.injEq] at hx;exact hx ▸ h
theorem Lx.inv {c:UInt8}{r:List UInt8}{n:Nat}(h:Lx (c::r) n)(hs:iJ c=false):∃ m,n=m+1∧
  ((isLet c=true∧(((c::r).takeWhile fK).length≤16∨(c::r).takeWhile fK∈rV)∧Lx ((c::r).dropWhile fK) m)∨
   (isLet c=false∧da c=true∧ly ((c::r).takeWhile da)<9223372036854775808∧Lx ((c::r).dropWhile da) m)∨
   (isLet c=false∧da c=false∧(c=47→r.head?≠some 47)∧0<uf (c::r)∧Lx ((c::r).drop (uf (c::r))) m)):=by
 cases h with
 | sp a _=>rw[a] at hs;cases hs
 | nm a b d=>exact⟨_,rfl,.inl ⟨a,b,d⟩⟩
 | num a b d=>
  have hn:isLet c=false:=by
   simp only[da,Bool.and_eq_true,decide_eq_true_eq] at a;simp only[isLet,Bool.or_eq_false_iff,Bool.and_eq_false_iff,decide_eq_false_iff_not];omega
  exact⟨_,rfl,.inr (.inl ⟨hn,a,b,d⟩)⟩
 | sg a b d e f g=>exact⟨_,rfl,.inr (.inr ⟨a,b,e,f,g⟩)⟩
def rk (l:List UInt8):Nat:=(l.takeWhile iJ).length
theorem Lx.skip {r:List UInt8}{n:Nat}(h:Lx r n):Lx (r.drop (rk r)) n:=by
 induction h with
 | nil n=>exact .nil n
 | @sp c r n a b ih=>
  have:rk (c::r)=rk r+1:=by simp[rk,a]
  rw[this,List.drop_succ_cons];exact ih
 | @nm c r n a b d _=>
  have hs:iJ c=false:=by
   simp only[isLet,Bool.or_eq_true,Bool.and_eq_true,decide_eq_true_eq] at a
   cases h:iJ c with
   | false=>rfl
   | true=>
    simp only[iJ,Bool.or_eq_true,beq_iff_eq] at h;rcases h with ((rfl | rfl) | rfl) | rfl<;>revert a<;>decide
  have:rk (c::r)=0:=by simp[rk,hs]
  rw[this];exact .nm a b d
 | @num c r n a b d _=>
  have hs:iJ c=false:=by
   simp only[da,Bool.and_eq_true,decide_eq_true_eq] at a
   cases h:iJ c with
   | false=>rfl
   | true=>
    simp only[iJ,Bool.or_eq_true,beq_iff_eq] at h;rcases h with ((rfl | rfl) | rfl) | rfl<;>revert a<;>decide
  have:rk (c::r)=0:=by simp[rk,hs]
  rw[this];exact .num a b d
 | @sg c r n a b d e f g _=>
  have:rk (c::r)=0:=by simp[rk,d]
  rw[this];exact .sg a b d e f g
theorem At {l:List UInt8}{c:UInt8}(h:(l.drop (rk l)).head? = some c):iJ c=false:=by
 unfold rk at h
 induction l with
 | nil=>simp at h
 | cons a r ih=>
  cases ha:iJ a with
  | true=>
   simp only[List.takeWhile_cons,ha,if_true,List.length_cons,List.drop_succ_cons] at h;exact ih h
  | false=>
   simp only[List.takeWhile_cons,ha] at h;simp at h;rw[← h];exact ha
def bs (s:ByteArray):List UInt8:=s.data.toList
theorem gM (a b:ByteArray):bs (a++b)=bs a++bs b:=by simp[bs,ByteArray.data_append]
theorem bs_mk (l:List UInt8):bs ⟨l.toArray⟩=l:=by simp[bs]
def kg (n:Nat):ByteArray:=if n<10 then ep (48+n) else kg (n / 10)++ep (48+n % 10)
termination_by n
decreasing_by omega
def lj (n:Int):ByteArray:=if n<0 then ⟨#[45]⟩++kg (-n).toNat else kg n.toNat
def nC (op:Nat):Nat:=if op=17 then 0 else if op=16 then 1 else if 10≤op∧op≤15 then 2 else if op=8∨op=9 then 3 else if 5≤op∧op≤7 then 4 else if op=3∨op=4 then 5 else 6
def Ex.lO:Ex→Nat
 | .zero=>0
 | .num _=>1
 | .nm _=>2
 | .un k _=>3+k
 | .bin k _ _=>5+k
 | .loc _=>18
 | .ke _=>19
def Ex.st (e:Ex):Nat:=nC e.lO
def tH (b:Bool)(x:ByteArray):ByteArray:=if b=true then ⟨#[40]⟩++x++⟨#[41]⟩ else x
def Db:List ByteArray:=[⟨#[42]⟩,⟨#[47]⟩,⟨#[37]⟩,⟨#[43]⟩,⟨#[45]⟩,⟨#[60]⟩,⟨#[60,61]⟩,⟨#[62]⟩,⟨#[62,61]⟩,⟨#[61,61]⟩,⟨#[33,61]⟩,⟨#[38,38]⟩,⟨#[124,124]⟩]
def iY:Ex→ByteArray
 | .num n=>kg n
 | .nm s=>s
 | .un k e=>(if k=0 then ⟨#[45]⟩ else ⟨#[33]⟩)++tH (decide (e.st<5)) (iY e)
 | .bin k a b=>tH (decide (a.st<nC (5+k))) (iY a)++⟨#[32]⟩++Db.getD k ⟨#[]⟩++⟨#[32]⟩++tH (decide (b.st≤nC (5+k))) (iY b)
 | _=>⟨#[]⟩
def Cq (r:Rf):ByteArray:=match r.index with
 | none=>r.name
 | some e=>r.name++⟨#[91]⟩++iY e++⟨#[93]⟩
def OS:Ar→ByteArray
 | .vm r=>⟨#[109,117,116,101,120,32]⟩++Cq r
 | .exp e=>iY e
def wv:Bool→List Ar→ByteArray
 | _,[]=>⟨#[]⟩
 | first,a::r=>(if first=true then ⟨#[]⟩ else ⟨#[44,32]⟩)++OS a++wv false r
def tM (l:List Ar):ByteArray:=⟨#[40]⟩++wv true l++⟨#[41]⟩
def Am:ByteArray:=⟨#[118,97,114,32]⟩
def G9:ByteArray:=⟨#[32,61,32]⟩
def jh:ByteArray:=⟨#[59]⟩
def NZ:ByteArray:=⟨#[103,111,32]⟩
def xp:ByteArray:=⟨#[108,111,99,107,32]⟩
def oD:ByteArray:=⟨#[117,110,108,111,99,107,32]⟩
def NY:ByteArray:=⟨#[105,102,32]⟩
def yS:ByteArray:=⟨#[119,104,105,108,101,32]⟩
def qk:ByteArray:=⟨#[32,123,10]⟩
def kU:ByteArray:=⟨#[125]⟩
def Ao:ByteArray:=⟨#[32,101,108,115,101,32,123,10]⟩
def JW:ByteArray:=⟨#[114,101,116,117,114,110,59]⟩
def tNl:ByteArray:=⟨#[10]⟩
def qi:ByteArray:=⟨#[9]⟩
mutual
def kW (OW:ByteArray):Sm→ByteArray
 | .g6 s e=>Am++s++G9++iY e++jh
 | .iD s e=>s++G9++iY e++jh
 | .ef g s l=>(if g=true then NZ++s else s)++tM l++jh
 | .dA u r=>(if u=true then oD else xp)++Cq r++jh
 | .lE e th el=>NY++iY e++qk++jy (OW++qi) th++OW++kU++(if el.length=0 then ⟨#[]⟩ else Ao++jy (OW++qi) el++OW++kU)
 | .cJ e th=>yS++iY e++qk++jy (OW++qi) th++OW++kU
 | .jF=>JW
def jy (OW:ByteArray):List Sm→ByteArray
 | []=>⟨#[]⟩
 | s::r=>OW++kW OW s++tNl++jy OW r
end
def LI (g:Gl):ByteArray:=Am++g.name++(if g.init=0 then ⟨#[]⟩ else G9++lj g.init)++⟨#[59,10]⟩
def KC (m:Mx):ByteArray:=(if m.re=true then ⟨#[114]⟩ else ⟨#[]⟩)++⟨#[109,117,116,101,120,32]⟩++m.name++(if m.size=0 then ⟨#[]⟩ else ⟨#[91]⟩++lj m.size++⟨#[93]⟩)++⟨#[59,10]⟩
def vb:Bool→List Pm→ByteArray
 | _,[]=>⟨#[]⟩
 | first,p::r=>(if first=true then ⟨#[]⟩ else ⟨#[44,32]⟩)++(if p.mutex=true then ⟨#[109,117,116,101,120,32]⟩ else ⟨#[]⟩)++p.name++vb false r
def Gv (f:Fu):ByteArray:=⟨#[102,117,110,99,32]⟩++f.name++⟨#[40]⟩++vb true f.params++⟨#[41,32,123,10]⟩++jy qi f.body++⟨#[125,10]⟩
def jR {α:Type}(f:α→ByteArray):List α→ByteArray
 | []=>⟨#[]⟩
 | a::r=>f a++jR f r
def Fy (p:Pg):ByteArray:=jR LI p.gs++jR KC p.ms++jR Gv p.fs
def dn (s:ByteArray):Prop:=(∃ c t,bs s=c::t∧isLet c=true)∧(bs s).all fK=true∧(bs s).length≤16
def cb (S:List UInt8→Prop)(s:ByteArray)(k b:Nat):Prop:=(bs s).length≤b∧∀ r n,S r→Lx r n→Lx (bs s++r) (n+k)
def Any (_:List UInt8):Prop:=True
theorem cb.app {S S':List UInt8→Prop}{s s':ByteArray}{k k' b b':Nat}(h:cb S s k b)(h':cb S' s' k' b')(hS:∀ r,S' r→S (bs s'++r)):cb S' (s++s') (k' + k) (b+b'):=by
 refine⟨by rw[gM,List.length_append];have:=h.1;have:=h'.1;omega,fun r n hr hl=>?_⟩;rw[gM,List.append_assoc,← Nat.add_assoc];exact h.2 _ _ (hS r hr) (h'.2 r n hr hl)
theorem cb.mono {S:List UInt8→Prop}{s:ByteArray}{k k' b b':Nat}(h:cb S s k b)(hk:k≤k')(hb:b≤b'):cb S s k' b':=
 ⟨Nat.le_trans h.1 hb,fun r n hr hl=>(h.2 r n hr hl).mono yA⟩
theorem cb.any {s:ByteArray}{k b:Nat}(h:cb Any s k b)(S:List UInt8→Prop):cb S s k b:=⟨h.1,fun r n _ hl=>h.2 r n trivial hl⟩
theorem cb.nil (S:List UInt8→Prop):cb S ⟨#[]⟩ 0 0:=⟨Nat.le_refl _,fun _ _ _ hl=>hl⟩
theorem cb.nm {s:ByteArray}(h:dn s):cb Stop s 1 16:=⟨h.2.2,Li.name h.1 h.2.1 (.inl h.2.2)⟩
theorem cb.word {l:List UInt8}(h0:∃ c t,l=c::t∧isLet c=true)(h1:l.all fK=true)(h2:l.length≤16)(s:ByteArray)(hs:bs s=l++[32]):cb Any s 1 17:=by
 refine⟨by rw[hs];simp;omega,fun r n _ hl=>?_⟩;rw[hs,List.append_assoc];exact Li.name h0 h1 (.inl h2) _ _ (Stop.cons _ Pb) (Lx.sp Pb hl)
theorem cb.sign {c:UInt8}(hc:c∈me)(h:c≠60∧c≠62∧c≠61∧c≠33∧c≠47):cb Any ⟨#[c]⟩ 1 1:=⟨Nat.le_refl _,fun _ _ _ hl=>Lx.zg hc h hl⟩
theorem qP (n:Nat):bs (ep n)=[UInt8.ofNat n]:=rfl
theorem zH:∀ n:Nat,(bs (kg n)).all da=true∧bs (kg n)≠[]∧ly (bs (kg n))=n∧∀ b,n<10 ^ (b+1)→(bs (kg n)).length≤b+1:=by
 intro n
 induction n using Nat.strongRecOn with
 | _ n ih=>
 have hd:∀ k,k<10→da (UInt8.ofNat (48+k))=true∧(UInt8.ofNat (48+k)).toNat-48=k:=by decide
 rw[kg];split
 ·rename_i h;obtain⟨a,b⟩:=hd n h;refine⟨by rw[qP];simp only[List.all_cons,List.all_nil,a,Bool.and_self],by rw[qP];simp,by rw[qP];simp only[ly,List.foldl_cons,List.foldl_nil,b];omega,fun b hb=>by rw[qP];simp⟩
 ·rename_i h;obtain⟨a,b⟩:=hd (n % 10) yA;obtain⟨i1,i2,i3,i4⟩:=ih (n / 10) yA;rw[gM,qP];refine⟨by rw[List.all_append,i1];simp only[List.all_cons,List.all_nil,a,Bool.and_self],by simp,?_,fun b hb=>?_⟩
  ·unfold ly at i3 ⊢;rw[List.foldl_append,i3];simp only[List.foldl_cons,List.foldl_nil,b];omega
  ·cases b with
   | zero=>omega
   | succ b=>
    have:=i4 b (by rw[Nat.pow_succ] at hb;omega);simp;omega
theorem cb.dig {n:Nat}(h:n<9223372036854775808):cb Stop (kg n) 1 19:=by
 obtain⟨i1,i2,i3,i4⟩:=zH n;exact⟨i4 18 yA,Li.num i2 i1 (by rw[i3];exact h)⟩
def fS (ns:List ByteArray):Nat→Ex→Prop
 | _,.num n=>n<4611686018427387904
 | _,.nm s=>s∈ns
 | d+1,.un k e=>k<2∧fS ns d e
 | d+1,.bin k a b=>k<13∧fS ns d a∧fS ns d b
 | _,_=>False
def B1:Nat→Nat
 | 0=>1
 | d+1=>2*B1 d+5
def Hd (s:ByteArray):Prop:=∃ c t,bs s=c::t∧c≠61∧c≠47
theorem Hd.app {s:ByteArray}(h:Hd s)(t:ByteArray):Hd (s++t):=by
 obtain⟨c,u,h1,h2⟩:=h;exact⟨c,u++bs t,by rw[gM,h1,List.cons_append],h2⟩
theorem Hd.nm {s:ByteArray}(h:dn s):Hd s:=by
 obtain⟨⟨c,t,h1,h2⟩,_⟩:=h;refine⟨c,t,h1,?_,?_⟩<;>rintro rfl<;>revert h2<;>decide
theorem Hd.dig (n:Nat):Hd (kg n):=by
 obtain⟨i1,i2,_,_⟩:=zH n
 cases hb:bs (kg n) with
 | nil=>exact absurd hb i2
 | cons c t=>
  rw[hb] at i1;simp only[List.all_cons,Bool.and_eq_true] at i1;refine⟨c,t,hb,?_,?_⟩<;>rintro rfl<;>have:=i1.1<;>revert this<;>decide
theorem Hd.par {s:ByteArray}(h:Hd s)(b:Bool):Hd (tH b s):=by
 unfold tH;split
 ·exact Hd.app (Hd.app ⟨40,[],rfl,by decide,by decide⟩ _) _
 ·exact h
theorem Hd.ex {ns:List ByteArray}(hn:∀ s∈ns,dn s):∀ (d:Nat) (e:Ex),fS ns d e→Hd (iY e)
 | _,.num n,_=>Hd.dig n
 | _,.nm s,h=>Hd.nm (hn s (by simpa [fS] using h))
 | d+1,.un k e,h=>by
  simp only[iY];refine Hd.app ?_ _;split
  ·exact⟨45,[],rfl,by decide,by decide⟩
  ·exact⟨33,[],rfl,by decide,by decide⟩
 | d+1,.bin k a b,h=>by
  simp only[fS] at h;simp only[iY];exact Hd.app (Hd.app (Hd.app (Hd.app (Hd.par (Hd.ex hn d a h.2.1) _) _) _) _) _
 | 0,.un _ _,h=>h.elim
 | 0,.bin _ _ _,h=>h.elim
 | 0,.zero,h=>h.elim
 | 0,.loc _,h=>h.elim
 | 0,.ke _,h=>h.elim
 | _+1,.zero,h=>h.elim
 | _+1,.loc _,h=>h.elim
 | _+1,.ke _,h=>h.elim
theorem cb.par {s:ByteArray}{k b:Nat}(h:cb Stop s k b)(c:Bool):cb Stop (tH c s) (k+2) (b+2):=by
 unfold tH;split
 ·have h1:=(cb.sign (c:=40) Pb Pb).app h fun _ _=>trivial;have h2:=h1.app (cb.sign (c:=41) Pb Pb) fun r _=>Stop.cons _ Pb;exact (h2.any Stop).mono yA yA
 ·exact h.mono yA yA
theorem cb.op {k:Nat}(hk:k<13):cb Any (⟨#[32]⟩++Db.getD k ⟨#[]⟩++⟨#[32]⟩) 1 4:=by
 refine⟨?_,fun r n _ hl=>?_⟩
 ·revert k;decide
 have RS:Lx (32::r) n:=Lx.sp Pb hl;have h1:∀ c:UInt8,c∈me→Lx (32::c::32::r) (n+1):=fun c hc=>Lx.sp Pb (Lx.one hc OU RS);have h2:∀ a b:UInt8,(a,b)∈rH→Lx (32::a::b::32::r) (n+1):=fun a b hc=>Lx.sp Pb (Lx.two hc RS)
 match k,hk with
 | 0,_=>exact h1 42 Pb
 | 1,_=>exact h1 47 Pb
 | 2,_=>exact h1 37 Pb
 | 3,_=>exact h1 43 Pb
 | 4,_=>exact h1 45 Pb
 | 5,_=>exact h1 60 Pb
 | 6,_=>exact h2 60 61 Pb
 | 7,_=>exact h1 62 Pb
 | 8,_=>exact h2 62 61 Pb
 | 9,_=>exact h2 61 61 Pb
 | 10,_=>exact h2 33 61 Pb
 | 11,_=>exact h2 38 38 Pb
 | 12,_=>exact h2 124 124 Pb
theorem uy (d:Nat):1≤B1 d:=by cases d<;>simp[B1]
theorem cb.ex {ns:List ByteArray}(hn:∀ s∈ns,dn s):∀ (d:Nat) (e:Ex),fS ns d e→cb Stop (iY e) (B1 d) (24*B1 d)
 | d,.num n,h=>by
  have h1:n<4611686018427387904:=by simpa [fS] using h
  have:=uy d;exact (cb.dig (n:=n) yA).mono yA yA
 | d,.nm s,h=>by
  have:=uy d;exact (cb.nm (hn s (by simpa [fS] using h))).mono yA yA
 | d+1,.un k e,h=>by
  simp only[fS] at h;have h1:=(cb.ex hn d e h.2).par (decide (e.st<5));have hh:=Hd.par (Hd.ex hn d e h.2) (decide (e.st<5));simp only[iY];have:=uy d;split
  ·exact ((cb.sign (c:=45) Pb Pb).app h1 fun _ _=>trivial).mono Up Up
  ·refine⟨?_,fun r n hr hl=>?_⟩
   ·rw[gM,List.length_append];have:=h1.1;simp only[B1];show 1+_≤_;omega
   ·rw[gM];have h2:=h1.2 r n hr hl;obtain⟨c,t,e1,e2⟩:=hh;rw[List.append_assoc];rw[e1] at h2 ⊢;exact (Lx.one (c:=33) Pb (by rintro x hx;simp at hx;exact hx ▸ e2) h2).mono Up
 | d+1,.bin k a b,h=>by
  simp only[fS] at h;have ha:=(cb.ex hn d a h.2.1).par (decide (a.st<nC (5+k)));have hb:=(cb.ex hn d b h.2.2).par (decide (b.st≤nC (5+k)));have ho:=cb.op h.1;have h1:=(ha.app ho fun r _=>by
   rw[gM,gM];exact Stop.cons _ Pb).app hb fun _ _=>trivial
  simp only[iY,ByteArray.append_assoc] at h1 ⊢;have:=uy d;exact h1.mono Up Up
 | 0,.un _ _,h=>h.elim
 | 0,.bin _ _ _,h=>h.elim
 | 0,.zero,h=>h.elim
 | 0,.loc _,h=>h.elim
 | 0,.ke _,h=>h.elim
 | _+1,.zero,h=>h.elim
 | _+1,.loc _,h=>h.elim
 | _+1,.ke _,h=>h.elim
end Go.aP
