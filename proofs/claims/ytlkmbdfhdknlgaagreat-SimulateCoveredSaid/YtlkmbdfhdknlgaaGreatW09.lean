/- Lemmas. -/
import Derived.Test.YtlkmbdfhdknlgaaGreatW08
namespace Go.Can
open Go.RowKit
section
variable {P:Program}{C:Cx}{s:St}{ops:Array Oper}{av:List (Nat×TI)}{Q:Exit->St->Prop}
def KY (o:Oper):Bool:=match o.op with
 | .convert _ _ _=>true
 | _=>false
def cvS (av:List (Nat×TI))(s:St)(o:Oper):Option St:=match o.op with
 | .convert t u x=>match s7 av s t u x with
  | some c=>some (s.put o.dst c)
  | none=>match ev s x,dO av t,dO av u with
   | some (.str b),some .str,some (.sl e)=>match dO av e with
    | some (.int .u8)=>if b.size<=1000000 then some (s.put o.dst (.az (rF b) b.size)) else none
    | _=>none
   | _,_,_=>none
 | _=>none
theorem QY (ht:aF P av){o:Oper}{s':St}(hd:bj C.nt o.dst=true)(h:cvS av s o=some s'):rO P C o s s':=by
 refine BM ht hd ?_;unfold cvS at h;unfold FN;split at h
 .rename_i t u x ho;rw[ho];simp only;split at h
  .rename_i c hc;rw[hc];exact h
  .rename_i hc;rw[hc];simp only;split at h
   .rename_i b e h1 h2 h3;rw[h1,h2,h3];simp only;split at h
    .rename_i h4;rw[h4];simp only;split at h
     .rename_i hb;rw[if_pos hb];exact h
     .cases h
    .cases h
   .cases h
 .cases h
def Mp (av:List (Nat×TI))(nt:Nat)(ops:Array Oper)(K:List Oper->St->Prop):List Oper->St->Prop
 | [],s=>K [] s
 | o::r,s=>if AZ o then
   match ca ops s o with
   | some false=>zA (Mp av nt ops K r) (gV av nt ops s o)
   | _=>K (o::r) s
  else if KY o then
   match ca ops s o with
   | some true=>if bj nt o.dst=true then zA (Mp av nt ops K r) (cvS av s o) else False
   | _=>zA (Mp av nt ops K r) (gV av nt ops s o)
  else zA (Mp av nt ops K r) (gV av nt ops s o)
theorem Fb (ht:aF P av){K:St->Prop}:∀ (l:List Oper) (s:St),Mp av C.nt ops (DZ P C ops K) l s->TL P C ops l s K
 | [],s,h=>TL.nil h
 | o::r,s,h=>by
  have fin:zA (Mp av C.nt ops (DZ P C ops K) r) (gV av C.nt ops s o)->TL P C ops (o::r) s K:=λ h=>by
   cases hs:gV av C.nt ops s o with
   | none=>rw[hs] at h;exact h.elim
   | some s'=>rw[hs] at h;exact TL.step ht hs (Fb ht r s' h)
  unfold Mp at h;split at h
  .split at h
   .exact fin h
   .exact h
  .split at h
   .split at h
    .rename_i hg;split at h
     .rename_i hd
      cases hs:cvS av s o with
      | none=>rw[hs] at h;exact h.elim
      | some s'=>rw[hs] at h;exact gW hg (QY ht hd hs) (Fb ht r s' h)
     .exact h.elim
    .exact fin h
   .exact fin h
theorem TL.D2 (ht:aF P av){K:St->Prop}{l:List Oper}(h:Mp av C.nt ops (DZ P C ops K) l s):TL P C ops l s K:=Fb ht l s h
theorem T.D2 (ht:aF P av){id:Nat}{l:List Oper}(h:Mp av C.nt l.toArray (DZ P C l.toArray (Q .normal)) l s):T P C (.region id l.toArray false) s Q:=T.region (TL.D2 ht h)
attribute [simp] KY cvS Mp s7 bytesOf cells?
end
end Go.Can
namespace Go.aK
open Go.Can List
def gm (left:Nat):ByteArray:=⟨#[118]⟩++⟨#[UInt8.ofNat (97+left % 26),UInt8.ofNat (97+left / 26 % 26)]⟩
structure PF where
 out:List Sm
 vars:List ByteArray
 i:Nat
 left:Nat
structure Wr where
 L:List Int
 ar:Bool
 ms:List Mx
 fs:List (ByteArray×List Pm)
abbrev Rec:=List ByteArray->Nat->Nat->Nat->Nat->List Sm×Nat×Nat
def Dp (w:Wr)(rec:Rec)(ps:List Pm)(vars:List ByteArray)(i left:Nat):PF:=
 ⟨.dS false (j6 w.L w.ar w.ms ps vars i).1::(rec vars 0 2 (j6 w.L w.ar w.ms ps vars i).2 left).1++[.dS true (j6 w.L w.ar w.ms ps vars i).1],vars,(rec vars 0 2 (j6 w.L w.ar w.ms ps vars i).2 left).2.1,(rec vars 0 2 (j6 w.L w.ar w.ms ps vars i).2 left).2.2⟩
def iJ (w:Wr)(ps:List Pm)(vars:List ByteArray)(go:Bool)(i left:Nat):PF:=
 ⟨[.eM go (w.fs.getD (cw w.L i w.fs.length).1 (eS,[])).1 (dC w.L w.ar w.ms ps vars (w.fs.getD (cw w.L i w.fs.length).1 (eS,[])).2 (cw w.L i w.fs.length).2).1],vars,(dC w.L w.ar w.ms ps vars (w.fs.getD (cw w.L i w.fs.length).1 (eS,[])).2 (cw w.L i w.fs.length).2).2,left⟩
def Se (w:Wr)(rec:Rec)(vars:List ByteArray)(deep i left:Nat):PF:=
 let e:=dJ w.L w.ar vars i
 let th:=rec vars (deep-1) 3 e.2 left
 let c:=cw w.L th.2.1 2
 if c.1=1 then
  let el:=rec vars (deep-1) 3 c.2 th.2.2
  ⟨[.mL e.1 th.1 el.1],vars,el.2.1,el.2.2⟩
 else ⟨[.mL e.1 th.1 []],vars,c.2,th.2.2⟩
def Rq (w:Wr)(rec:Rec)(vars:List ByteArray)(deep i left:Nat):PF:=
 let e:=dJ w.L w.ar vars i
 let th:=rec vars (deep-1) 3 e.2 left
 ⟨[.cX e.1 th.1],vars,th.2.1,th.2.2⟩
def BG (w:Wr)(rec:Rec)(ps:List Pm)(vars:List ByteArray)(deep i0 left:Nat):PF:=
 let k:=(cw w.L i0 14).1
 let i:=(cw w.L i0 14).2
 if k<4 then ⟨[.dS false (j6 w.L w.ar w.ms ps vars i).1],vars,(j6 w.L w.ar w.ms ps vars i).2,left⟩
 else if k<7 then ⟨[.dS true (j6 w.L w.ar w.ms ps vars i).1],vars,(j6 w.L w.ar w.ms ps vars i).2,left⟩
 else if k=7 then ⟨[.iU (gm left) (dJ w.L w.ar vars i).1],vars++[gm left],(dJ w.L w.ar vars i).2,left⟩
 else if k=8/\0<vars.length then ⟨[.jx (vars.getD (cw w.L i vars.length).1 eS) (dJ w.L w.ar vars (cw w.L i vars.length).2).1],vars,(dJ w.L w.ar vars (cw w.L i vars.length).2).2,left⟩
 else if k=9 then iJ w ps vars false i left
 else if k=10 then iJ w ps vars true i left
 else if k=11/\0<deep then Se w rec vars deep i left
 else if k=12/\0<deep then Rq w rec vars deep i left
 else if k=13/\(cw w.L i 3).1=1 then ⟨[.kj],vars,(cw w.L i 3).2,left⟩
 else if k=13 then Dp w rec ps vars (cw w.L i 3).2 left
 else Dp w rec ps vars i left
def vp (w:Wr)(rec:Rec)(ps:List Pm)(deep:Nat):Nat->List ByteArray->Nat->Nat->List Sm×Nat×Nat
 | 0,_,i,left=>([],i,left)
 | n+1,vars,i,left=>
  if left=0 then ([],i,left) else
  let s:=BG w rec ps vars deep i (left-1)
  let r:=vp w rec ps deep n s.vars s.i s.left
  (s.out++r.1,r.2)
def oQ (w:Wr)(ps:List Pm):Nat->Rec
 | 0=>λ _ _ most i left=>([],(cw w.L i (most+1)).2,left)
 | f+1=>λ vars deep most i left=>vp w (oQ w ps f) ps deep (cw w.L i (most+1)).1 vars (cw w.L i (most+1)).2 left
def yF (L:List Int)(rec:Rec):Prop:=∀ vars deep most i left,i<=L.length->(rec vars deep most i left).2.1<=L.length/\(rec vars deep most i left).1.length+2*(rec vars deep most i left).2.2<=2*left
structure Ma (L:List Int)(vars:List ByteArray)(left:Nat)(b:PF):Prop where
 i:b.i<=L.length
 n:b.out.length+2*b.left<=2*(left+1)
 v:b.vars.length+b.left<=vars.length+left+1
 l:b.left<=left
 p:0<b.out.length
theorem GV {w:Wr}{rec:Rec}(h:yF w.L rec)(ps:List Pm)(vars:List ByteArray){i:Nat}(left:Nat)(hi:i<=w.L.length):Ma w.L vars left (Dp w rec ps vars i left):=by
 obtain⟨h1,h2⟩:=h vars 0 2 _ left (sB w.L w.ar w.ms ps vars hi);refine⟨h1,?_,?_,?_,?_⟩<;>simp only[Dp,length_append,length_cons,length_nil]<;>omega
theorem DG {w:Wr}(ps:List Pm)(vars:List ByteArray)(go:Bool){i:Nat}(left:Nat)(hi:i<=w.L.length):Ma w.L vars left (iJ w ps vars go i left):=by
 refine⟨tK _ _ _ _ _ _ (bq _ _ hi),?_,?_,?_,?_⟩<;>simp only[iJ,length_cons,length_nil]<;>omega
theorem PN {w:Wr}{rec:Rec}(h:yF w.L rec)(vars:List ByteArray)(deep:Nat){i:Nat}(left:Nat)(hi:i<=w.L.length):Ma w.L vars left (Rq w rec vars deep i left):=by
 obtain⟨h1,h2⟩:=h vars (deep-1) 3 _ left (lp w.L w.ar vars hi);refine⟨h1,?_,?_,?_,?_⟩<;>simp only[Rq,length_cons,length_nil]<;>omega
theorem QL {w:Wr}{rec:Rec}(h:yF w.L rec)(vars:List ByteArray)(deep:Nat){i:Nat}(left:Nat)(hi:i<=w.L.length):Ma w.L vars left (Se w rec vars deep i left):=by
 obtain⟨h1,h2⟩:=h vars (deep-1) 3 _ left (lp w.L w.ar vars hi);obtain⟨h3,h4⟩:=h vars (deep-1) 3 (cw w.L (rec vars (deep-1) 3 (dJ w.L w.ar vars i).2 left).2.1 2).2 (rec vars (deep-1) 3 (dJ w.L w.ar vars i).2 left).2.2 (bq _ _ h1);unfold Se;simp only;split
 .refine⟨h3,?_,?_,?_,?_⟩<;>simp only[length_cons,length_nil]<;>omega
 .refine⟨bq _ _ h1,?_,?_,?_,?_⟩<;>simp only[length_cons,length_nil]<;>omega
theorem JC {w:Wr}{rec:Rec}(h:yF w.L rec)(ps:List Pm)(vars:List ByteArray)(deep:Nat){i:Nat}(left:Nat)(hi:i<=w.L.length):Ma w.L vars left (BG w rec ps vars deep i left):=by
 have Tf:=bq w.L 14 hi;unfold BG;simp only;split
 .exact⟨sB _ _ _ _ _ Tf,by simp<;>omega,by simp<;>omega,Nat.le_refl _,by simp⟩
 split
 .exact⟨sB _ _ _ _ _ Tf,by simp<;>omega,by simp<;>omega,Nat.le_refl _,by simp⟩
 split
 .exact⟨lp _ _ _ Tf,by simp<;>omega,by simp<;>omega,Nat.le_refl _,by simp⟩
 split
 .exact⟨lp _ _ _ (bq _ _ Tf),by simp<;>omega,by simp<;>omega,Nat.le_refl _,by simp⟩
 split
 .exact DG ps vars false left Tf
 split
 .exact DG ps vars true left Tf
 split
 .exact QL h vars deep left Tf
 split
 .exact PN h vars deep left Tf
 split
 .exact⟨bq _ _ Tf,by simp<;>omega,by simp<;>omega,Nat.le_refl _,by simp⟩
 split
 .exact GV h ps vars left (bq _ _ Tf)
 .exact GV h ps vars left Tf
theorem KK {w:Wr}{rec:Rec}(h:yF w.L rec)(ps:List Pm)(deep:Nat):∀ (n:Nat) (vars:List ByteArray) (i left:Nat),i<=w.L.length->(vp w rec ps deep n vars i left).2.1<=w.L.length/\(vp w rec ps deep n vars i left).1.length+2*(vp w rec ps deep n vars i left).2.2<=2*left
 | 0,vars,i,left,hi=>⟨hi,by simp[vp]⟩
 | n+1,vars,i,left,hi=>by
  rw[vp];split
  .exact⟨hi,by simp⟩
  .have h1:=JC h ps vars deep (left-1) hi;obtain⟨h2,h3⟩:=KK h ps deep n (BG w rec ps vars deep i (left-1)).vars (BG w rec ps vars deep i (left-1)).i (BG w rec ps vars deep i (left-1)).left h1.i;refine⟨h2,?_⟩;have:=h1.n;simp only[length_append];omega
theorem wG (w:Wr)(ps:List Pm):∀ f:Nat,yF w.L (oQ w ps f)
 | 0=>λ vars deep most i left hi=>⟨bq _ _ hi,by simp[oQ]⟩
 | f+1=>λ vars deep most i left hi=>KK (wG w ps f) ps deep _ vars _ left (bq _ _ hi)
def eR (n:Nat):ByteArray:=⟨#[UInt8.ofNat n]⟩
def ue (L:List Int):Nat->Nat->Nat->List Mx×Nat
 | 0,_,i=>([],i)
 | n+1,j,i=>
  if (cw L i 5).1=1 then (⟨eR (97+j),true,0⟩ :: (ue L n (j+1) (cw L i 5).2).1,(ue L n (j+1) (cw L i 5).2).2)
  else if (cw L i 5).1=2 then (⟨eR (97+j),false,1+(cw L (cw L i 5).2 3).1⟩ :: (ue L n (j+1) (cw L (cw L i 5).2 3).2).1,(ue L n (j+1) (cw L (cw L i 5).2 3).2).2)
  else (⟨eR (97+j),false,0⟩ :: (ue L n (j+1) (cw L i 5).2).1,(ue L n (j+1) (cw L i 5).2).2)
def yV (L:List Int):Nat->Nat->Nat->List Gl×Nat
 | 0,_,i=>([],i)
 | n+1,j,i=>(⟨⟨#[103]⟩++eR (48+j),((cw L i 5).1:Int)-2⟩ :: (yV L n (j+1) (cw L i 5).2).1,(yV L n (j+1) (cw L i 5).2).2)
def Gd (L:List Int):Nat->Nat->List Pm×Nat
 | 0,i=>([],i)
 | n+1,i=>(⟨⟨#[112]⟩++eR (48+(n+1)),decide (0<(cw L i 3).1)⟩ :: (Gd L n (cw L i 3).2).1,(Gd L n (cw L i 3).2).2)
def xT (L:List Int):Nat->Nat->Nat->List Fu×Nat
 | 0,_,i=>([],i)
 | n+1,j,i=>
  let p:=Gd L (if j=0 then 0 else (cw L i 3).1) (cw L i 3).2
  (⟨if j=0 then ⟨#[109,97,105,110]⟩ else ⟨#[102]⟩++eR (48+j),p.1,[]⟩ :: (xT L n (j+1) p.2).1,(xT L n (j+1) p.2).2)
def ku (gs:List Gl)(ps:List Pm):List ByteArray:=gs.map (·.name)++ps.flatMap λ p=>if p.mutex=true then [] else [p.name]
def Ov (w:Wr)(gs:List Gl):Nat->Nat->List Fu->Nat->Nat->List Fu
 | 0,_,fs,_,_=>fs
 | n+1,j,fs,i,left=>
  match fs[j]? with
  | none=>fs
  | some f=>
   let b:=oQ w f.params left (ku gs f.params) 2 6 i left
   Ov w gs n (j+1) (fs.set j ⟨f.name,f.params,b.1⟩) b.2.1 b.2.2
def D0 (l:List Int):Pg:=
 let L:=l.take 400
 let a:=cw L 0 3
 let nm:=cw L a.2 4
 let ms:=ue L (1+nm.1) 0 nm.2
 let ng:=cw L ms.2 3
 let gs:=yV L ng.1 0 ng.2
 let nf:=cw L gs.2 4
 let fs:=xT L (nf.1+1) 0 nf.2
 ⟨gs.1,ms.1,Ov ⟨L,decide (a.1=1),ms.1,fs.1.map λ f=>(f.name,f.params)⟩ gs.1 (nf.1+1) 0 fs.1 fs.2 24⟩
def jC (c:UInt8):Bool:=c == 32 || c == 9 || c == 10 || c == 13
def isLet (c:UInt8):Bool:=(decide (97<=c.toNat) && decide (c.toNat<=122)) || (decide (65<=c.toNat) && decide (c.toNat<=90)) || decide (c.toNat=95)
def dy (c:UInt8):Bool:=decide (48<=c.toNat) && decide (c.toNat<=57)
def gu (c:UInt8):Bool:=isLet c || dy c
def uz:List (List UInt8):=[[118,97,114],[109,117,116,101,120],[114,109,117,116,101,120],[102,117,110,99],[108,111,99,107],[117,110,108,111,99,107],[103,111],[105,102],[101,108,115,101],[119,104,105,108,101],[114,101,116,117,114,110]]
def nQ:List UInt8:=[40,41,123,125,91,93,44,59,61,43,45,42,47,37,60,62,33]
def ui:List (UInt8×UInt8):=[(60,61),(62,61),(61,61),(33,61),(38,38),(124,124)]
def mF (w:List UInt8):Nat:=w.foldl (λ n c=>10*n+(c.toNat-48)) 0
def v9:List UInt8->Nat
 | a::b::_=>if (a,b)∈ui then 2 else if a∈nQ then 1 else 0
 | [a]=>if a∈nQ then 1 else 0
 | []=>0
inductive Lx:List UInt8->Nat->Prop
 | nil (n:Nat):Lx [] n
 | sp {c:UInt8} {r:List UInt8} {n:Nat}:jC c=true->Lx r n->Lx (c::r) n
 | nm {c:UInt8} {r:List UInt8} {n:Nat}:isLet c=true->(((c::r).takeWhile gu).length<=16\/(c::r).takeWhile gu∈uz)->Lx ((c::r).dropWhile gu) n->Lx (c::r) (n+1)
 | num {c:UInt8} {r:List UInt8} {n:Nat}:dy c=true->mF ((c::r).takeWhile dy)<9223372036854775808->Lx ((c::r).dropWhile dy) n->Lx (c::r) (n+1)
 | sg {c:UInt8} {r:List UInt8} {n:Nat}:isLet c=false->dy c=false->jC c=false->(c=47->r.head?≠some 47)->0<v9 (c::r)->Lx ((c::r).drop (v9 (c::r))) n->Lx (c::r) (n+1)
theorem Lx.mono {r:List UInt8}{n m:Nat}(h:Lx r n)(hm:n<=m):Lx r m:=by
 induction h generalizing m with
 | nil=>exact .nil _
 | sp a _ ih=>exact .sp a (ih hm)
 | nm a b _ ih=>
  obtain⟨k,rfl⟩:∃ k,m=k+1:=⟨m-1,by omega⟩;exact .nm a b (ih yA)
 | num a b _ ih=>
  obtain⟨k,rfl⟩:∃ k,m=k+1:=⟨m-1,by omega⟩;exact .num a b (ih yA)
 | sg a b c d e _ ih=>
  obtain⟨k,rfl⟩:∃ k,m=k+1:=⟨m-1,by omega⟩;exact .sg a b c d e (ih yA)
def Stop (r:List UInt8):Prop:=∀ c,r.head? = some c->gu c=false/\c≠61/\c≠47
theorem kY {p:UInt8->Bool}:∀ (w r:List UInt8),(w.all p=true)->(∀ c,r.head? = some c->p c=false)->(w++r).takeWhile p=w/\(w++r).dropWhile p=r
 | [],r,_,h=>by
  cases r with
  | nil=>exact⟨rfl,rfl⟩
  | cons c r=>
   have:=h c rfl;simp[this]
 | a::w,r,ha,h=>by
  simp only[all_cons,Bool.and_eq_true] at ha;obtain⟨h1,h2⟩:=kY w r ha.2 h;constructor
  .rw[cons_append,takeWhile_cons,if_pos ha.1,h1]
  .rw[cons_append,dropWhile_cons,if_pos ha.1,h2]
def OD (s:List UInt8)(k:Nat):Prop:=∀ r n,Stop r->Lx r n->Lx (s++r) (n+k)
theorem OD.name {s:List UInt8}(h0:∃ c t,s=c::t/\isLet c=true)(h1:s.all gu=true)(h2:s.length<=16\/s∈uz):OD s 1:=by
 intro r n hr hl;obtain⟨c,t,rfl,hc⟩:=h0;obtain⟨e1,e2⟩:=kY (c::t) r h1 λ x hx=>(hr x hx).1;rw[cons_append] at e1 e2 |-;exact Lx.nm hc (by rw[e1];exact h2) (by rw[e2];exact hl)
theorem OD.num {s:List UInt8}(h0:s≠[])(h1:s.all dy=true)(h2:mF s<9223372036854775808):OD s 1:=by
 intro r n hr hl
 cases s with
 | nil=>exact absurd rfl h0
 | cons c t=>
  have hd:∀ x,r.head? = some x->dy x=false:=λ x hx=>by
   have:=(hr x hx).1;simp only[gu,Bool.or_eq_false_iff] at this;exact this.2
  obtain⟨e1,e2⟩:=kY (c::t) r h1 hd;simp only[all_cons,Bool.and_eq_true] at h1;rw[cons_append] at e1 e2 |-;exact Lx.num h1.1 (by rw[e1];exact h2) (by rw[e2];exact hl)
theorem Lx.one {c:UInt8}{r:List UInt8}{n:Nat}(hc:c∈nQ)(hr:∀ x,r.head? = some x->x≠61/\x≠47)(hl:Lx r n):Lx (c::r) (n+1):=by
 have hx:(∀ b,(c,b)∈ui->b=61):=by
  intro b hb;simp only[nQ,mem_cons,not_mem_nil,or_false] at hc;rcases hc with rfl | rfl | rfl | rfl | rfl | rfl | rfl | rfl | rfl | rfl | rfl | rfl | rfl | rfl | rfl | rfl | rfl<;>simp_all [ui]
 have hs:v9 (c::r)=1:=by
  cases r with
  | nil=>simp[v9,hc]
  | cons b t=>
   have hb:(c,b)∉ui:=λ h=>(hr b rfl).1 (hx b h);simp[v9,hc,hb]
 have h3:isLet c=false/\dy c=false/\jC c=false:=by
  simp only[nQ,mem_cons,not_mem_nil,or_false] at hc;rcases hc with rfl | rfl | rfl | rfl | rfl | rfl | rfl | rfl | rfl | rfl | rfl | rfl | rfl | rfl | rfl | rfl | rfl<;>decide
 refine Lx.sg h3.1 h3.2.1 h3.2.2 (λ _ h=>(hr 47 h).2 rfl) (by rw[hs];exact Nat.one_pos) ?_;rw[hs];exact hl
theorem Lx.AJ {c:UInt8}{r:List UInt8}{n:Nat}(hc:c∈nQ)(h:c≠60/\c≠62/\c≠61/\c≠33/\c≠47)(hl:Lx r n):Lx (c::r) (n+1):=by
 have hs:v9 (c::r)=1:=by
  cases r with
  | nil=>simp[v9,hc]
  | cons b t=>
   have hb:(c,b)∉ui:=by
    simp only[nQ,mem_cons,not_mem_nil,or_false] at hc;rcases hc with rfl | rfl | rfl | rfl | rfl | rfl | rfl | rfl | rfl | rfl | rfl | rfl | rfl | rfl | rfl | rfl | rfl<;>simp_all [ui]
   simp[v9,hc,hb]
 have h3:isLet c=false/\dy c=false/\jC c=false:=by
  simp only[nQ,mem_cons,not_mem_nil,or_false] at hc;rcases hc with rfl | rfl | rfl | rfl | rfl | rfl | rfl | rfl | rfl | rfl | rfl | rfl | rfl | rfl | rfl | rfl | rfl<;>decide
 refine Lx.sg h3.1 h3.2.1 h3.2.2 (λ e=>absurd e h.2.2.2.2) (by rw[hs];exact Nat.one_pos) ?_;rw[hs];exact hl
theorem Lx.two {a b:UInt8}{r:List UInt8}{n:Nat}(hc:(a,b)∈ui)(hl:Lx r n):Lx (a::b::r) (n+1):=by
 have hs:v9 (a::b::r)=2:=by simp[v9,hc]
 have h3:isLet a=false/\dy a=false/\jC a=false/\a≠47:=by
  simp only[ui,mem_cons,not_mem_nil,or_false,Prod.mk.injEq] at hc;rcases hc with ⟨rfl,_⟩ | ⟨rfl,_⟩ | ⟨rfl,_⟩ | ⟨rfl,_⟩ | ⟨rfl,_⟩ | ⟨rfl,_⟩<;>decide
 refine Lx.sg h3.1 h3.2.1 h3.2.2.1 (λ e=>absurd e h3.2.2.2) (by rw[hs];omega) ?_;rw[hs];exact hl
theorem Stop.cons {c:UInt8}(r:List UInt8)(h:gu c=false/\c≠61/\c≠47):Stop (c::r):=by
 intro x hx;simp only[head?_cons,Option.some.injEq] at hx;exact hx ▸ h
theorem Lx.inv {c:UInt8}{r:List UInt8}{n:Nat}(h:Lx (c::r) n)(hs:jC c=false):∃ m,n=m+1/\
  ((isLet c=true/\(((c::r).takeWhile gu).length<=16\/(c::r).takeWhile gu∈uz)/\Lx ((c::r).dropWhile gu) m)\/
   (isLet c=false/\dy c=true/\mF ((c::r).takeWhile dy)<9223372036854775808/\Lx ((c::r).dropWhile dy) m)\/
   (isLet c=false/\dy c=false/\(c=47->r.head?≠some 47)/\0<v9 (c::r)/\Lx ((c::r).drop (v9 (c::r))) m)):=by
 cases h with
 | sp a _=>rw[a] at hs;cases hs
 | nm a b d=>exact⟨_,rfl,.inl ⟨a,b,d⟩⟩
 | num a b d=>
  have hn:isLet c=false:=by
   simp only[dy,Bool.and_eq_true,decide_eq_true_eq] at a;simp only[isLet,Bool.or_eq_false_iff,Bool.and_eq_false_iff,decide_eq_false_iff_not];omega
  exact⟨_,rfl,.inr (.inl ⟨hn,a,b,d⟩)⟩
 | sg a b d e f g=>exact⟨_,rfl,.inr (.inr ⟨a,b,e,f,g⟩)⟩
def uc (l:List UInt8):Nat:=(l.takeWhile jC).length
theorem Lx.skip {r:List UInt8}{n:Nat}(h:Lx r n):Lx (r.drop (uc r)) n:=by
 induction h with
 | nil n=>exact .nil n
 | @sp c r n a b ih=>
  have:uc (c::r)=uc r+1:=by simp[uc,a]
  rw[this,drop_succ_cons];exact ih
 | @nm c r n a b d _=>
  have hs:jC c=false:=by
   simp only[isLet,Bool.or_eq_true,Bool.and_eq_true,decide_eq_true_eq] at a
   cases h:jC c with
   | false=>rfl
   | true=>
    simp only[jC,Bool.or_eq_true,beq_iff_eq] at h;rcases h with ((rfl | rfl) | rfl) | rfl<;>revert a<;>decide
  have:uc (c::r)=0:=by simp[uc,hs]
  rw[this];exact .nm a b d
 | @num c r n a b d _=>
  have hs:jC c=false:=by
   simp only[dy,Bool.and_eq_true,decide_eq_true_eq] at a
   cases h:jC c with
   | false=>rfl
   | true=>
    simp only[jC,Bool.or_eq_true,beq_iff_eq] at h;rcases h with ((rfl | rfl) | rfl) | rfl<;>revert a<;>decide
  have:uc (c::r)=0:=by simp[uc,hs]
  rw[this];exact .num a b d
 | @sg c r n a b d e f g _=>
  have:uc (c::r)=0:=by simp[uc,d]
  rw[this];exact .sg a b d e f g
theorem B7 {l:List UInt8}{c:UInt8}(h:(l.drop (uc l)).head? = some c):jC c=false:=by
 unfold uc at h
 induction l with
 | nil=>simp at h
 | cons a r ih=>
  cases ha:jC a with
  | true=>
   simp only[takeWhile_cons,ha,if_true,length_cons,drop_succ_cons] at h;exact ih h
  | false=>
   simp only[takeWhile_cons,ha] at h;simp at h;rw[<- h];exact ha
def bs (s:ByteArray):List UInt8:=s.data.toList
theorem iv (a b:ByteArray):bs (a++b)=bs a++bs b:=by simp[bs,ByteArray.data_append]
theorem bs_mk (l:List UInt8):bs ⟨l.toArray⟩=l:=by simp[bs]
def lq (n:Nat):ByteArray:=if n<10 then eR (48+n) else lq (n / 10)++eR (48+n % 10)
termination_by n
decreasing_by omega
def mv (n:Int):ByteArray:=if n<0 then ⟨#[45]⟩++lq (-n).toNat else lq n.toNat
def oW (op:Nat):Nat:=if op=17 then 0 else if op=16 then 1 else if 10<=op/\op<=15 then 2 else if op=8\/op=9 then 3 else if 5<=op/\op<=7 then 4 else if op=3\/op=4 then 5 else 6
def Ex.mV:Ex->Nat
 | .zero=>0
 | .num _=>1
 | .nm _=>2
 | .un k _=>3+k
 | .bin k _ _=>5+k
 | .loc _=>18
 | .jE _=>19
def Ex.st (e:Ex):Nat:=oW e.mV
def vN (b:Bool)(x:ByteArray):ByteArray:=if b=true then ⟨#[40]⟩++x++⟨#[41]⟩ else x
def FA:List ByteArray:=[⟨#[42]⟩,⟨#[47]⟩,⟨#[37]⟩,⟨#[43]⟩,⟨#[45]⟩,⟨#[60]⟩,⟨#[60,61]⟩,⟨#[62]⟩,⟨#[62,61]⟩,⟨#[61,61]⟩,⟨#[33,61]⟩,⟨#[38,38]⟩,⟨#[124,124]⟩]
def jK:Ex->ByteArray
 | .num n=>lq n
 | .nm s=>s
 | .un k e=>(if k=0 then ⟨#[45]⟩ else ⟨#[33]⟩)++vN (decide (e.st<5)) (jK e)
 | .bin k a b=>vN (decide (a.st<oW (5+k))) (jK a)++⟨#[32]⟩++FA.getD k ⟨#[]⟩++⟨#[32]⟩++vN (decide (b.st<=oW (5+k))) (jK b)
 | _=>⟨#[]⟩
def EC (r:Rf):ByteArray:=match r.index with
 | none=>r.name
 | some e=>r.name++⟨#[91]⟩++jK e++⟨#[93]⟩
def Sq:Ar->ByteArray
 | .xF r=>⟨#[109,117,116,101,120,32]⟩++EC r
 | .exp e=>jK e
def yw:Bool->List Ar->ByteArray
 | _,[]=>⟨#[]⟩
 | first,a::r=>(if first=true then ⟨#[]⟩ else ⟨#[44,32]⟩)++Sq a++yw false r
def vS (l:List Ar):ByteArray:=⟨#[40]⟩++yw true l++⟨#[41]⟩
def B3:ByteArray:=⟨#[118,97,114,32]⟩
def Js:ByteArray:=⟨#[32,61,32]⟩
def jQ:ByteArray:=⟨#[59]⟩
def Ru:ByteArray:=⟨#[103,111,32]⟩
def zd:ByteArray:=⟨#[108,111,99,107,32]⟩
def pT:ByteArray:=⟨#[117,110,108,111,99,107,32]⟩
def Rt:ByteArray:=⟨#[105,102,32]⟩
def An:ByteArray:=⟨#[119,104,105,108,101,32]⟩
def sq:ByteArray:=⟨#[32,123,10]⟩
def me:ByteArray:=⟨#[125]⟩
def B5:ByteArray:=⟨#[32,101,108,115,101,32,123,10]⟩
def MJ:ByteArray:=⟨#[114,101,116,117,114,110,59]⟩
def tNl:ByteArray:=⟨#[10]⟩
def sh:ByteArray:=⟨#[9]⟩
mutual
def mf (HN:ByteArray):Sm->ByteArray
 | .iU s e=>B3++s++Js++jK e++jQ
 | .jx s e=>s++Js++jK e++jQ
 | .eM g s l=>(if g=true then Ru++s else s)++vS l++jQ
 | .dS u r=>(if u=true then pT else zd)++EC r++jQ
 | .mL e th el=>Rt++jK e++sq++j3 (HN++sh) th++HN++me++(if el.length=0 then ⟨#[]⟩ else B5++j3 (HN++sh) el++HN++me)
 | .cX e th=>An++jK e++sq++j3 (HN++sh) th++HN++me
 | .kj=>MJ
def j3 (HN:ByteArray):List Sm->ByteArray
 | []=>⟨#[]⟩
 | s::r=>HN++mf HN s++tNl++j3 HN r
end
def O9 (g:Gl):ByteArray:=B3++g.name++(if g.init=0 then ⟨#[]⟩ else Js++mv g.init)++⟨#[59,10]⟩
def NC (m:Mx):ByteArray:=(if m.re=true then ⟨#[114]⟩ else ⟨#[]⟩)++⟨#[109,117,116,101,120,32]⟩++m.name++(if m.size=0 then ⟨#[]⟩ else ⟨#[91]⟩++mv m.size++⟨#[93]⟩)++⟨#[59,10]⟩
def xp:Bool->List Pm->ByteArray
 | _,[]=>⟨#[]⟩
 | first,p::r=>(if first=true then ⟨#[]⟩ else ⟨#[44,32]⟩)++(if p.mutex=true then ⟨#[109,117,116,101,120,32]⟩ else ⟨#[]⟩)++p.name++xp false r
def IZ (f:Fu):ByteArray:=⟨#[102,117,110,99,32]⟩++f.name++⟨#[40]⟩++xp true f.params++⟨#[41,32,123,10]⟩++j3 sh f.body++⟨#[125,10]⟩
def kJ {α:Type}(f:α->ByteArray):List α->ByteArray
 | []=>⟨#[]⟩
 | a::r=>f a++kJ f r
def HW (p:Pg):ByteArray:=kJ O9 p.gs++kJ NC p.ms++kJ IZ p.fs
def dI (s:ByteArray):Prop:=(∃ c t,bs s=c::t/\isLet c=true)/\(bs s).all gu=true/\(bs s).length<=16
def cu (S:List UInt8->Prop)(s:ByteArray)(k b:Nat):Prop:=(bs s).length<=b/\∀ r n,S r->Lx r n->Lx (bs s++r) (n+k)
def Any (_:List UInt8):Prop:=True
theorem cu.app {S S':List UInt8->Prop}{s s':ByteArray}{k k' b b':Nat}(h:cu S s k b)(h':cu S' s' k' b')(hS:∀ r,S' r->S (bs s'++r)):cu S' (s++s') (k' + k) (b+b'):=by
 refine⟨by rw[iv,length_append];have:=h.1;have:=h'.1;omega,λ r n hr hl=>?_⟩;rw[iv,append_assoc,<- Nat.add_assoc];exact h.2 _ _ (hS r hr) (h'.2 r n hr hl)
theorem cu.mono {S:List UInt8->Prop}{s:ByteArray}{k k' b b':Nat}(h:cu S s k b)(hk:k<=k')(hb:b<=b'):cu S s k' b':=
 ⟨Nat.le_trans h.1 hb,λ r n hr hl=>(h.2 r n hr hl).mono yA⟩
theorem cu.any {s:ByteArray}{k b:Nat}(h:cu Any s k b)(S:List UInt8->Prop):cu S s k b:=⟨h.1,λ r n _ hl=>h.2 r n trivial hl⟩
theorem cu.nil (S:List UInt8->Prop):cu S ⟨#[]⟩ 0 0:=⟨Nat.le_refl _,λ _ _ _ hl=>hl⟩
theorem cu.nm {s:ByteArray}(h:dI s):cu Stop s 1 16:=⟨h.2.2,OD.name h.1 h.2.1 (.inl h.2.2)⟩
theorem cu.word {l:List UInt8}(h0:∃ c t,l=c::t/\isLet c=true)(h1:l.all gu=true)(h2:l.length<=16)(s:ByteArray)(hs:bs s=l++[32]):cu Any s 1 17:=by
 refine⟨by rw[hs];simp;omega,λ r n _ hl=>?_⟩;rw[hs,append_assoc];exact OD.name h0 h1 (.inl h2) _ _ (Stop.cons _ SC) (Lx.sp SC hl)
theorem cu.sign {c:UInt8}(hc:c∈nQ)(h:c≠60/\c≠62/\c≠61/\c≠33/\c≠47):cu Any ⟨#[c]⟩ 1 1:=⟨Nat.le_refl _,λ _ _ _ hl=>Lx.AJ hc h hl⟩
theorem sY (n:Nat):bs (eR n)=[UInt8.ofNat n]:=rfl
theorem Bj:∀ n:Nat,(bs (lq n)).all dy=true/\bs (lq n)≠[]/\mF (bs (lq n))=n/\∀ b,n<10 ^ (b+1)->(bs (lq n)).length<=b+1:=by
 intro n
 induction n using Nat.strongRecOn with
 | _ n ih=>
 have hd:∀ k,k<10->dy (UInt8.ofNat (48+k))=true/\(UInt8.ofNat (48+k)).toNat-48=k:=by decide
 rw[lq];split
 .rename_i h;obtain⟨a,b⟩:=hd n h;refine⟨by rw[sY];simp only[all_cons,all_nil,a,Bool.and_self],by rw[sY];simp,by rw[sY];simp only[mF,foldl_cons,foldl_nil,b];omega,λ b hb=>by rw[sY];simp⟩
 .rename_i h;obtain⟨a,b⟩:=hd (n % 10) yA;obtain⟨i1,i2,i3,i4⟩:=ih (n / 10) yA;rw[iv,sY];refine⟨by rw[all_append,i1];simp only[all_cons,all_nil,a,Bool.and_self],by simp,?_,λ b hb=>?_⟩
  .unfold mF at i3 |-;rw[foldl_append,i3];simp only[foldl_cons,foldl_nil,b];omega
  .cases b with
   | zero=>omega
   | succ b=>
    have:=i4 b (by rw[Nat.pow_succ] at hb;omega);simp;omega
theorem cu.dig {n:Nat}(h:n<9223372036854775808):cu Stop (lq n) 1 19:=by
 obtain⟨i1,i2,i3,i4⟩:=Bj n;exact⟨i4 18 yA,OD.num i2 i1 (by rw[i3];exact h)⟩
def gC (ns:List ByteArray):Nat->Ex->Prop
 | _,.num n=>n<4611686018427387904
 | _,.nm s=>s∈ns
 | d+1,.un k e=>k<2/\gC ns d e
 | d+1,.bin k a b=>k<13/\gC ns d a/\gC ns d b
 | _,_=>False
def D4:Nat->Nat
 | 0=>1
 | d+1=>2*D4 d+5
def Hd (s:ByteArray):Prop:=∃ c t,bs s=c::t/\c≠61/\c≠47
theorem Hd.app {s:ByteArray}(h:Hd s)(t:ByteArray):Hd (s++t):=by
 obtain⟨c,u,h1,h2⟩:=h;exact⟨c,u++bs t,by rw[iv,h1,cons_append],h2⟩
theorem Hd.nm {s:ByteArray}(h:dI s):Hd s:=by
 obtain⟨⟨c,t,h1,h2⟩,_⟩:=h;refine⟨c,t,h1,?_,?_⟩<;>rintro rfl<;>revert h2<;>decide
theorem Hd.dig (n:Nat):Hd (lq n):=by
 obtain⟨i1,i2,_,_⟩:=Bj n
 cases hb:bs (lq n) with
 | nil=>exact absurd hb i2
 | cons c t=>
  rw[hb] at i1;simp only[all_cons,Bool.and_eq_true] at i1;refine⟨c,t,hb,?_,?_⟩<;>rintro rfl<;>have:=i1.1<;>revert this<;>decide
theorem Hd.par {s:ByteArray}(h:Hd s)(b:Bool):Hd (vN b s):=by
 unfold vN;split
 .exact Hd.app (Hd.app ⟨40,[],rfl,by decide,by decide⟩ _) _
 .exact h
theorem Hd.ex {ns:List ByteArray}(hn:∀ s∈ns,dI s):∀ (d:Nat) (e:Ex),gC ns d e->Hd (jK e)
 | _,.num n,_=>Hd.dig n
 | _,.nm s,h=>Hd.nm (hn s (by simpa [gC] using h))
 | d+1,.un k e,h=>by
  simp only[jK];refine Hd.app ?_ _;split
  .exact⟨45,[],rfl,by decide,by decide⟩
  .exact⟨33,[],rfl,by decide,by decide⟩
 | d+1,.bin k a b,h=>by
  simp only[gC] at h;simp only[jK];exact Hd.app (Hd.app (Hd.app (Hd.app (Hd.par (Hd.ex hn d a h.2.1) _) _) _) _) _
 | 0,.un _ _,h=>h.elim
 | 0,.bin _ _ _,h=>h.elim
 | 0,.zero,h=>h.elim
 | 0,.loc _,h=>h.elim
 | 0,.jE _,h=>h.elim
 | _+1,.zero,h=>h.elim
 | _+1,.loc _,h=>h.elim
 | _+1,.jE _,h=>h.elim
theorem cu.par {s:ByteArray}{k b:Nat}(h:cu Stop s k b)(c:Bool):cu Stop (vN c s) (k+2) (b+2):=by
 unfold vN;split
 .have h1:=(cu.sign (c:=40) SC SC).app h λ _ _=>trivial;have h2:=h1.app (cu.sign (c:=41) SC SC) λ r _=>Stop.cons _ SC;exact (h2.any Stop).mono yA yA
 .exact h.mono yA yA
theorem cu.op {k:Nat}(hk:k<13):cu Any (⟨#[32]⟩++FA.getD k ⟨#[]⟩++⟨#[32]⟩) 1 4:=by
 refine⟨?_,λ r n _ hl=>?_⟩
 .revert k;decide
 have W5:Lx (32::r) n:=Lx.sp SC hl;have h1:∀ c:UInt8,c∈nQ->Lx (32::c::32::r) (n+1):=λ c hc=>Lx.sp SC (Lx.one hc xr W5);have h2:∀ a b:UInt8,(a,b)∈ui->Lx (32::a::b::32::r) (n+1):=λ a b hc=>Lx.sp SC (Lx.two hc W5)
 match k,hk with
 | 0,_=>exact h1 42 SC
 | 1,_=>exact h1 47 SC
 | 2,_=>exact h1 37 SC
 | 3,_=>exact h1 43 SC
 | 4,_=>exact h1 45 SC
 | 5,_=>exact h1 60 SC
 | 6,_=>exact h2 60 61 SC
 | 7,_=>exact h1 62 SC
 | 8,_=>exact h2 62 61 SC
 | 9,_=>exact h2 61 61 SC
 | 10,_=>exact h2 33 61 SC
 | 11,_=>exact h2 38 38 SC
 | 12,_=>exact h2 124 124 SC
theorem wA (d:Nat):1<=D4 d:=by cases d<;>simp[D4]
theorem cu.ex {ns:List ByteArray}(hn:∀ s∈ns,dI s):∀ (d:Nat) (e:Ex),gC ns d e->cu Stop (jK e) (D4 d) (24*D4 d)
 | d,.num n,h=>by
  have h1:n<4611686018427387904:=by simpa [gC] using h
  have:=wA d;exact (cu.dig (n:=n) yA).mono yA yA
 | d,.nm s,h=>by
  have:=wA d;exact (cu.nm (hn s (by simpa [gC] using h))).mono yA yA
 | d+1,.un k e,h=>by
  simp only[gC] at h;have h1:=(cu.ex hn d e h.2).par (decide (e.st<5));have hh:=Hd.par (Hd.ex hn d e h.2) (decide (e.st<5));simp only[jK];have:=wA d;split
  .exact ((cu.sign (c:=45) SC SC).app h1 λ _ _=>trivial).mono X8 X8
  .refine⟨?_,λ r n hr hl=>?_⟩
   .rw[iv,length_append];have:=h1.1;simp only[D4];show 1+_<=_;omega
   .rw[iv];have h2:=h1.2 r n hr hl;obtain⟨c,t,e1,e2⟩:=hh;rw[append_assoc];rw[e1] at h2 |-;exact (Lx.one (c:=33) SC (by rintro x hx;simp at hx;exact hx ▸ e2) h2).mono X8
 | d+1,.bin k a b,h=>by
  simp only[gC] at h;have ha:=(cu.ex hn d a h.2.1).par (decide (a.st<oW (5+k)));have hb:=(cu.ex hn d b h.2.2).par (decide (b.st<=oW (5+k)));have ho:=cu.op h.1;have h1:=(ha.app ho λ r _=>by
   rw[iv,iv];exact Stop.cons _ SC).app hb λ _ _=>trivial
  simp only[jK,ByteArray.append_assoc] at h1 |-;have:=wA d;exact h1.mono X8 X8
 | 0,.un _ _,h=>h.elim
 | 0,.bin _ _ _,h=>h.elim
 | 0,.zero,h=>h.elim
 | 0,.loc _,h=>h.elim
 | 0,.jE _,h=>h.elim
 | _+1,.zero,h=>h.elim
 | _+1,.loc _,h=>h.elim
 | _+1,.jE _,h=>h.elim
end Go.aK
