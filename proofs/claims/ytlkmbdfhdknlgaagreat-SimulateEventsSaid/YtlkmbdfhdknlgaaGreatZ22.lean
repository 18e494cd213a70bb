/- The interpreter with all o -/
import Derived.Test.YtlkmbdfhdknlgaaGreatZ21
namespace Go.Can
open Go.RowKit List
structure IP where
 av:List (Nat×TI)
 mt:iX
 al:FuncId->Bool
 pu:FuncId->Bool
 orc:FuncId->Nat->Option (List (Nat×Nat))
 HO:List (FuncId×List CV×CV)
 mi:List MI:=[]
 ei:List EI:=[]
def knl:List (FuncId×List CV×CV)->FuncId->List CV->Option CV
 | [],_,_=>none
 | (h,ds,r)::l,g,cs=>if (h == g && uD ds cs)=true then some r else knl l g cs
abbrev pY:=FuncId->List CV->Option CV
def Ez (I:IP)(n0 nt:Nat)(ops:Array Oper)(call:gv)(pcall:pY)(o:Oper)(s:St):Option St:=
 match ct o with
 | none=>match gO I.av nt ops s o with
  | some s'=>some s'
  | none=>match bY ops s o with
   | some true=>if bm nt o.dst=true then match Fv n0 I.av s o with
     | some s'=>some s'
     | none=>match J0 I.mi n0 s o with
      | some s'=>some s'
      | none=>match C8 I.ei s o with
       | some s'=>some s'
       | none=>Lp I.av s o
    else none
   | _=>none
 | some c=>match bY ops s o with
  | some true=>if bm nt o.dst=true then match jL I.mt s c with
    | some (g,cs)=>match (if trees cs then pcall g cs else none) with
     | some r=>some (s.put o.dst r)
     | none=>match call g cs s.heap s.nx with
      | some (x,H,n)=>some (St.put ⟨s.env,H,n⟩ o.dst x)
      | none=>none
    | none=>none
   else none
  | _=>gO I.av nt ops s o
def CG (I:IP)(n0 nt:Nat)(ops:Array Oper)(call:gv)(pcall:pY):List Oper->St->Option St
 | [],s=>some s
 | o::r,s=>match Ez I n0 nt ops call pcall o s with
  | some s'=>CG I n0 nt ops call pcall r s'
  | none=>none
def drX (I:IP)(call:gv)(pcall:pY)(g:FuncId)(_n0 nt:Nat)(id:Nat)(ops:Array Oper)(s:St):Option St:=match I.orc g id with
 | none=>none
 | some dyn=>NY I.av I.mt nt ops call pcall (range ops.size) dyn s
def Qa (I:IP)(g:FuncId)(id:Nat)(ops:Array Oper)(d:Bool):Bool:=!d || match I.orc g id with
 | some dyn=>wu ops false (range ops.size) dyn
 | none=>true
def Jq (I:IP)(call:gv)(pcall:pY)(g:FuncId)(n0 nt:Nat)(id:Nat)(ops:Array Oper)(d:Bool)(s:St):Option St:=
 if d then drX I call pcall g n0 nt id ops s else CG I n0 nt ops call pcall ops.toList s
def xV (I:IP)(go:FuncId->List CV->List (Nat×Ob)->Nat->Option (Func×St)):gv:=λ g cs H n=>match go g cs H n with
 | some (fn,s)=>match bL I.av fn s with
  | some r=>some (r,s.heap,s.nx)
  | none=>none
 | none=>none
def qy (I:IP)(go:FuncId->List CV->List (Nat×Ob)->Nat->Option (Func×St)):pY:=λ g cs=>match knl I.HO g cs with
 | some r=>some r
 | none=>if I.pu g then match go g cs [] 0 with
  | some (fn,s)=>match bL I.av fn s with
   | some r=>deep s.heap 60 r
   | none=>none
  | none=>none
  else none
def aN (P:Program)(I:IP):Nat->FuncId->List CV->List (Nat×Ob)->Nat->Option (Func×St)
 | 0,_,_,_,_=>none
 | f+1,g,cs,H,n=>match P.funcs[g]? with
  | none=>none
  | some fn=>match fn.body with
   | none=>none
   | some c => if (fn.name == "runtime.NumGoroutine") = false /\ cs.length <= fn.ntmps /\ I.al g = true then
     match oo (Jq I (xV I (aN P I f)) (qy I (aN P I f)) g n fn.ntmps) f c ⟨(enter cs).env,H,n⟩ with
     | some (.normal,s')=>some (fn,s')
     | some (.ret,s')=>some (fn,s')
     | _=>none
    else none
section
variable {P:Program}{C:Cx}{s:St}{I:IP}{ops:Array Oper}{call:gv}{pcall:pY}
structure OT (P:Program)(I:IP):Prop where
 kn:∀ x∈I.HO,ae P x.1 x.2.1 x.2.2
 av:aD P I.av
 mt:j5 P I.mt
 mi:QK P I.mi
 ei:LH P I.ei
 md:P.follows .mixedOrders=true
 gd:∀ g fn c,I.al g=true->P.funcs[g]? = some fn->fn.body=some c->ig (Qa I g) c=true
theorem HD (hI:OT P I)(hc:gT P I.av call)(hp:yz P pcall){o:Oper}{l:List Oper}{s':St}{K:St->Prop}(h:Ez I C.n0 C.nt ops call pcall o s=some s')(hk:TL P C ops l s' K):TL P C ops (o::l) s K:=by
 unfold Ez at h;split at h
 ·split at h
  ·rename_i s1 h1;cases h;exact TL.step hI.av h1 hk
  ·split at h
   ·rename_i hg;split at h
    ·rename_i hd;split at h
     ·rename_i s1 h1;cases h;exact mK hg (BB hI.av hd h1) hk
     ·split at h
      ·rename_i s1 h1;cases h;exact mK hg (JZ hI.mi hd h1) hk
      ·split at h
       ·rename_i s1 h1;cases h;exact mK hg (xI hI.ei hd h1) hk
       ·exact mK hg (Lo hI.av hd h) hk
    ·cases h
   ·cases h
 ·rename_i c hu;have R5:=hU hu;split at h
  ·rename_i hg;split at h
   ·rename_i hd;split at h
    ·rename_i g cs Se;split at h
     ·rename_i r hr;cases h;split at hr
      ·rename_i ht;have hP:=hp g cs r hr;exact pureE hd hg (qu.to hI.mt R5 Se hP.1) ht hP hk
      ·cases hr
     ·split at h
      ·rename_i x H n hx;cases h;have hB:=hc _ _ _ _ _ _ _ hx;have hE:kW P g:=by
        obtain⟨fn,c,h1,h2,h3,_⟩:=hB;exact⟨fn,h1,h3,by simp[h2]⟩
       refine callE hI.av hd hg (qu.to hI.mt R5 Se hE) hB ?_;rintro r s1 ⟨rfl,rfl,rfl⟩;exact hk
      ·cases h
    ·cases h
   ·cases h
  ·exact TL.step hI.av h hk
theorem CF (hI:OT P I)(hc:gT P I.av call)(hp:yz P pcall):∀ (l:List Oper) (s s':St),CG I C.n0 C.nt ops call pcall l s=some s'->TL P C ops l s λ x=>x=s'
 | [],s,s',h=>by
  simp only[CG] at h;cases h;exact TL.nil rfl
 | o::r,s,s',h=>by
  simp only[CG] at h;split at h
  ·rename_i s1 h1;exact HD hI hc hp h1 (CF hI hc hp r s1 s' h)
  ·cases h
theorem Qf (hI:OT P I)(hc:gT P I.av call)(hp:yz P pcall)(g:FuncId)(id:Nat)(ops:Array Oper)(s s':St)(hg:Qa I g id ops true=true)(h:drX I call pcall g C.n0 C.nt id ops s=some s'):T P C (.region id ops true) s λ e x=>e=.normal/\x=s':=by
 unfold drX at h;unfold Qa at hg;split at h
 ·cases h
 ·rename_i dyn ho;rw[ho] at hg;exact T.trace hI.av hI.mt hc hp hI.md (by simpa using hg) h
theorem Ms (hI:OT P I)(hc:gT P I.av call)(hp:yz P pcall)(g:FuncId):LB P C (Qa I g) (Jq I call pcall g C.n0 C.nt):=by
 intro id ops d s s' hg h;unfold Jq at h
 cases d with
 | true=>exact Qf hI hc hp g id ops s s' hg TK
 | false=>
  have hl:=CF (ops:=ops.toList.toArray) hI hc hp ops.toList s s' TK
  simpa using TL.again (id:=id) hl
def QL (P : Program) (go : FuncId -> List CV -> List (Nat × Ob) -> Nat -> Option (Func × St)) : Prop := ∀ g cs H n fn s', go g cs H n = some (fn, s') -> ∃ c, P.funcs[g]? = some fn /\ fn.body = some c /\ (fn.name == "runtime.NumGoroutine") = false /\ cs.length <= fn.ntmps /\
 ∀ C:Cx,C.nt=fn.ntmps->C.n0=n->T P C c ⟨(enter cs).env,H,n⟩ λ e x=>(e=.normal\/e=.ret)/\x=s'
theorem Ie {go:FuncId->List CV->List (Nat×Ob)->Nat->Option (Func×St)}(h:QL P go):gT P I.av (xV I go):=by
 intro g cs H n x H' n' hx;unfold xV at hx;split at hx
 ·rename_i fn s' hg;split at hx
  ·rename_i r hr;cases hx;obtain⟨c,h1,h2,h3,h4,h5⟩:=h _ _ _ _ _ _ hg;refine Body.jv h1 h2 h3 h4 λ C hC RR=>T.mono (h5 C hC RR) ?_;rintro e x ⟨rfl | rfl,rfl⟩<;>exact aa.here ⟨_,hr,rfl,rfl,rfl⟩
  ·cases hx
 ·cases hx
theorem Gf:∀ (l:List (FuncId×List CV×CV)) (g:FuncId) (cs:List CV) (r:CV),knl l g cs=some r->(g,cs,r)∈l
 | [],_,_,_,h=>by simp[knl] at h
 | (h',ds,r')::l,g,cs,r,h=>by
  simp only[knl] at h;split at h
  ·rename_i e;simp only[Bool.and_eq_true,beq_iff_eq] at e;cases h;rw[jZ _ _ e.2,e.1];exact mem_cons_self
  ·exact mem_cons_of_mem _ (Gf l g cs r h)
theorem y5 (ht:aD P I.av)(hk:∀ x∈I.HO,ae P x.1 x.2.1 x.2.2){go:FuncId->List CV->List (Nat×Ob)->Nat->Option (Func×St)}(h:QL P go):yz P (qy I go):=by
 intro g cs r hx;unfold qy at hx;split at hx
 ·rename_i r' hk';cases hx;exact hk _ (Gf _ _ _ _ hk')
 ·split at hx
  ·split at hx
   ·rename_i fn s' hg;split at hx
    ·rename_i r0 hr;obtain⟨c,h1,h2,h3,h4,h5⟩:=h _ _ _ _ _ _ hg;refine ae.MO ht h1 h2 h3 h4 λ C hC RR=>T.mono (h5 C hC RR) ?_;rintro e x ⟨rfl | rfl,rfl⟩<;>exact⟨r0,60,hr,hx⟩
    ·cases hx
   ·cases hx
  ·cases hx
theorem KC (hI:OT P I):∀ f,QL P (aN P I f)
 | 0=>λ _ _ _ _ _ _ h=>by simp[aN] at h
 | f+1=>λ g cs H n fn s' h=>by
  have ih:=KC hI f;simp only[aN] at h;split at h
  ·cases h
  ·rename_i fn' hf;split at h
   ·cases h
   ·rename_i c hb;split at h
    ·rename_i WK
     cases hx:oo (Jq I (xV I (aN P I f)) (qy I (aN P I f)) g n fn'.ntmps) f c ⟨(enter cs).env,H,n⟩ with
     | none=>rw[hx] at h;cases h
     | some q=>
      rw[hx] at h;obtain⟨e3,s1⟩:=q;have hT:∀ C:Cx,C.nt=fn'.ntmps->C.n0=n->T P C c ⟨(enter cs).env,H,n⟩ λ e x=>e=e3/\x=s1:=λ C hC RR=>by
       have hR:LB P C (Qa I g) (Jq I (xV I (aN P I f)) (qy I (aN P I f)) g C.n0 C.nt):=Ms hI (Ie ih) (y5 hI.av hI.kn ih) g;rw[hC,RR] at hR;exact T.mono (GA hR f c _ _ (hI.gd g fn' c WK.2.2 hf hb) hx) λ e x he=>he
      cases e3<;>simp only at h<;>first | cases h | skip
      all_goals
       exact⟨c,hf,hb,WK.1,WK.2.1,λ C hC RR=>T.mono (hT C hC RR) λ e x he=>⟨by simp[he.1],he.2⟩⟩
    ·cases h
theorem eK (hI:OT P I)(f:Nat){g:FuncId}{cs:List CV}{r:CV}(h:qy I (aN P I f) g cs=some r):ae P g cs r:=y5 hI.av hI.kn (KC hI f) g cs r h
end
def CZ (P:Program)(I:IP)(l:List Nat):Bool:=l.all λ g=>match P.funcs[g]? with
 | some fn=>match fn.body with
  | some c=>ig (Qa I g) c
  | none=>true
 | none=>true
theorem HT {P:Program}(I:IP)(HO:List (FuncId×List CV×CV))(l:List Nat):CZ P { I with HO:=HO } l=CZ P I l:=rfl
theorem CY {P:Program}{I:IP}{l:List Nat}(h:CZ P I l=true)(hl:∀ g,I.al g=true->g∈l):∀ g fn c,I.al g=true->P.funcs[g]? = some fn->fn.body=some c->ig (Qa I g) c=true:=λ g fn c ha hf hb=>by
 have:=all_eq_true.1 h g (hl g ha);simp only[hf,hb] at this;exact this
def J8 (P:Program)(t:Nat)(name:String)(g:FuncId):Bool:=match P.info? t with
 | some i=>match i.methods.find? (·.name == name) with
  | some m=>match m.path.toList,m.func with
   | [],some (h,false)=>h == g && match P.underlying t with
    | some (.pointer _)=>false
    | some _=>true
    | none=>false
   | _,_=>false
  | none=>false
 | none=>false
theorem J7 {P:Program}{t:Nat}{name:String}{g:FuncId}(h:J8 P t name g=true):Bs P t name g:=by
 unfold J8 at h;split at h
 ·rename_i i hi;split at h
  ·rename_i m hm;split at h
   ·rename_i k hp hf;simp only[Bool.and_eq_true,beq_iff_eq] at h;obtain⟨rfl,h2⟩:=h;refine⟨⟨i,m,hi,hm,hp,by rw[Array.isEmpty_iff_size_eq_zero,<- Array.length_toList,hp];rfl,hf⟩,?_⟩;split at h2
    ·cases h2
    ·rename_i d hn hd;exact⟨d,hd,λ e he=>hn e (by rw[he])⟩
    ·cases h2
   ·cases h
  ·cases h
 ·cases h
def F8 (P:Program)(mt:iX):Bool:=mt.all λ x=>J8 P x.1.1 x.1.2 x.2
theorem xj {P:Program}{mt:iX}(h:F8 P mt=true):j5 P mt:=λ x hx=>J7 (all_eq_true.1 h x hx)
end Go.Can
namespace Go.Proofs.YtlkmbdfhdknlgaaGreat
open Go.Can Go.aJ List Tryz
def ral:List Nat:=[200,206]
def rip:IP:=⟨av,[],λ g=>ral.contains g,λ _=>true,λ _ _=>none,[],[],[]⟩
theorem rgd:CZ prog rip ral=true:=by kernel_rfl
theorem wJ:OT prog rip:=⟨by simp[rip],ah,xj Ix,by intro x hx;simp[rip] at hx,by intro x hx;simp[rip] at hx,follows,CY (l:=ral) rgd λ g ha=>by simpa [rip] using ha⟩
def w9 (k:Nat):List ByteArray×List Int:=match k with
 | 0=>([⟨#[124,124]⟩],[17])
 | 1=>([⟨#[38,38]⟩],[16])
 | 2=>([⟨#[61,61]⟩,⟨#[33,61]⟩,⟨#[60]⟩,⟨#[60,61]⟩,⟨#[62]⟩,⟨#[62,61]⟩],[14,15,10,11,12,13])
 | 3=>([⟨#[43]⟩,⟨#[45]⟩],[8,9])
 | _=>([⟨#[42]⟩,⟨#[47]⟩,⟨#[37]⟩],[5,6,7])
set_option maxRecDepth 100000 in
theorem fZ:∀ k:Nat,k<=17->ae prog 206 [I k] (I (oC k))
 | 0,_=>eK (I:=rip) wJ 300 Ix
 | 1,_=>eK (I:=rip) wJ 300 Ix
 | 2,_=>eK (I:=rip) wJ 300 Ix
 | 3,_=>eK (I:=rip) wJ 300 Ix
 | 4,_=>eK (I:=rip) wJ 300 Ix
 | 5,_=>eK (I:=rip) wJ 300 Ix
 | 6,_=>eK (I:=rip) wJ 300 Ix
 | 7,_=>eK (I:=rip) wJ 300 Ix
 | 8,_=>eK (I:=rip) wJ 300 Ix
 | 9,_=>eK (I:=rip) wJ 300 Ix
 | 10,_=>eK (I:=rip) wJ 300 Ix
 | 11,_=>eK (I:=rip) wJ 300 Ix
 | 12,_=>eK (I:=rip) wJ 300 Ix
 | 13,_=>eK (I:=rip) wJ 300 Ix
 | 14,_=>eK (I:=rip) wJ 300 Ix
 | 15,_=>eK (I:=rip) wJ 300 Ix
 | 16,_=>eK (I:=rip) wJ 300 Ix
 | 17,_=>eK (I:=rip) wJ 300 Ix
 | _+18,h=>absurd h yA
set_option maxRecDepth 100000 in
theorem Je:∀ k:Nat,k<=4->ae prog 200 [I k] (.cB [strs (w9 k).1,ints (w9 k).2])
 | 0,_=>eK (I:=rip) wJ 300 Ix
 | 1,_=>eK (I:=rip) wJ 300 Ix
 | 2,_=>eK (I:=rip) wJ 300 Ix
 | 3,_=>eK (I:=rip) wJ 300 Ix
 | 4,_=>eK (I:=rip) wJ 300 Ix
 | _+5,h=>absurd h yA
def bK (gs:List Gl)(ms:List Mx)(nf left:Nat)(ar:Bool):Ob:=⟨128,0,[.aw 0 0,.ax (gs.flatMap qk) gs.length,.ax (ms.flatMap cH) ms.length,.bb 2 0 nf,I left,.bool ar]⟩
@[simp] theorem wrOb_frz (gs:List Gl)(ms:List Mx)(nf left:Nat)(ar:Bool)(o:Nat)(h:o≠0)(h2:o≠2)(cs:List CV)(n:Nat):(⟨(bK gs ms nf left ar).elem,(bK gs ms nf left ar).sz,(bK gs ms nf left ar).cells.map (cw o cs n)⟩:Ob)=bK gs ms nf left ar:=by
 have h':¬ 0=o:=λ e=>h e.symm;have Vx:¬ 2=o:=λ e=>h2 e.symm;simp[bK,h',Vx]
@[simp] theorem QV (ρ:Nat->Nat)(h0:ρ 0=0)(h2:ρ 2=2)(gs:List Gl)(ms:List Mx)(nf left:Nat)(ar:Bool):bh ρ (bK gs ms nf left ar)=bK gs ms nf left ar:=by
 simp only[bh,bK,aX,cN,h0,h2]
@[simp] theorem QT (L:List Int)(i n:Nat):(aG L i).cells.all (aU n)=true:=rfl
@[simp] theorem QR (L:List Int)(i n:Nat):ba n (aG L i).cells=true:=rfl
@[simp] theorem IK (gs:List Gl)(ms:List Mx)(nf left:Nat)(ar:Bool)(n:Nat)(h:2<n):(bK gs ms nf left ar).cells.all (aU n)=true:=by
 have h':0<n:=by omega
 simp[bK,h,h']
@[simp] theorem wrOb_lts (gs:List Gl)(ms:List Mx)(nf left:Nat)(ar:Bool)(n:Nat)(h:2<n):ba n (bK gs ms nf left ar).cells=true:=by rw[aT];exact IK gs ms nf left ar n h
theorem yM (r:Rf):trees (lN r)=true:=by
 rcases r with ⟨_,_ | _⟩<;>rfl
theorem oy (L:List Int)(hL:L.length<=1000)(vars:List ByteArray)(hv:vars.length<=1000)(gs:List Gl)(ms:List Mx)(nf left:Nat)(ar:Bool)(i:Nat)(hi:i<=L.length) :
  Body prog av 124 [.aw 1 0,.bb 3 0 vars.length] [(0,aG L i),(1,bK gs ms nf left ar),(3,bt vars)] 4 (jC (.agg (bf (dH L ar vars i).1)) [(0,aG L (dH L ar vars i).2),(1,bK gs ms nf left ar),(3,bt vars)] 4):=by
 refine Body.jv Tryz.func124 rfl Ix (by simp[Tryz.ntmps124]) λ C hC RR=>?_;rw[Tryz.ntmps124] at hC;apply aq;simp[hC]
 cases ar with
 | false=>
  apply aW;simp[hC,bK];refine dy ?_;simp;apply aq;simp[hC];refine TL.cU ah [0,3] 4 (wD L hL vars hv 0 i yA hi) RT rfl rfl rfl rfl xr SZ SY rfl (TL.go' ah ?_);simp[bA];apply T.ret;refine aa.le (Le.trim [4] [0,1,3,4] 5 yCq yA) ?_;simp;refine aa.le (Le.nz [] [4]) ?_;simp;refine aa.le (Le.dn (o:=4) rfl Xp) ?_;simp;refine aa.trim [4] [0,1,3] 4 V1 yA ⟨_,?_,rfl,?_,rfl⟩
  ·simp[dH,q9,bA]
  ·simp[dH]
 | true=>
  apply aW;simp[hC,bK];refine fX ?_;simp;have RS:=dE L i (show 0<2 by omega);have w1:=cF (1+((cq L i 2).1:Int)) yA yA;apply T.seq;refine T.rx ah follows [0,1,2,3,4,5,6,7,8,9,10,11,12] [(3,9)] Ix ?_;simp[hC];refine RX.cU [0] [0] 1 (cL L i 2 hi hL yA yA) rfl xr rfl rfl rfl rfl xr SZ SY rfl rfl rfl xr ?_;simp[w1];refine RX.cU [0,3] [0] 4 (wD L hL vars hv (1+(cq L i 2).1) _ yA (bq _ _ hi)) rfl xr rfl rfl rfl rfl xr SZ SY rfl rfl rfl xr ?_;simp[bA];apply T.ret;refine aa.le (Le.trim [4] [0,1,3,4] 18 yCq yA) ?_;simp;refine aa.le (Le.nz [] [4]) ?_;simp;refine aa.le (Le.dn (o:=4) rfl Xp) ?_;simp;refine aa.trim [4] [0,1,3] 4 V1 yA ⟨_,?_,rfl,?_,rfl⟩
  ·simp[dH,q9,bA]
  ·simp[dH]
theorem G3 (L:List Int)(hL:L.length<=1000)(vars:List ByteArray)(hv:vars.length<=1000)(gs:List Gl)(ms:List Mx)(nf left size:Nat)(hs:0<size)(ZY:size<=1000)(ar:Bool)(i:Nat)(hi:i<=L.length) :
  Body prog av 158 [.aw 1 0,.bb 3 0 vars.length,I size] [(0,aG L i),(1,bK gs ms nf left ar),(3,bt vars)] 4 (jC (.agg (bf (qa L ar vars size i).1)) [(0,aG L (qa L ar vars size i).2),(1,bK gs ms nf left ar),(3,bt vars)] 4):=by
 refine Body.jv Tryz.func158 rfl Ix (by simp[Tryz.ntmps158]) λ C hC RR=>?_;rw[Tryz.ntmps158] at hC;apply aq;simp[hC];have Wl:=bq L 3 hi
 cases ar with
 | false=>
  apply aW;simp[hC,bK];refine fX ?_;simp;apply aq;simp[hC];refine TL.cU ah [0] 1 (cL L i size hi hL hs yA) RT rfl rfl rfl rfl xr SZ SY rfl (TL.go' ah ?_);simp[hC];apply T.ret;refine aa.le (Le.trim [6] [0,1,3,4] 5 yCz yA) ?_;simp;refine aa.le (Le.nz [] [4]) ?_;simp;refine aa.le (Le.dn (o:=4) rfl Xp) ?_;simp;refine aa.trim [6] [0,1,3] 4 V1 yA ⟨_,?_,rfl,?_,rfl⟩
  ·simp[qa,bf,eS]
  ·simp[qa]
 | true=>
  apply aW;simp[hC,bK];refine TL.cU ah [0] 1 (cL L i 3 hi hL yA yA) RT rfl rfl rfl rfl xr SZ SY rfl (TL.go' ah ?_);simp[hC];refine T.bu rfl (λ h=>?_) (λ h=>?_)
  ·have h1:(cq L i 3).1=1:=by simpa using h
   apply aq;simp[hC];refine TL.cU ah [0,3] 4 (wD L hL vars hv 1 _ yA Wl) RT rfl rfl rfl rfl xr SZ SY rfl (TL.go' ah ?_);simp[bA];apply T.ret;refine aa.le (Le.trim [6] [0,1,3,4] 5 yCq yA) ?_;simp;refine aa.le (Le.nz [] [4]) ?_;simp;refine aa.le (Le.dn (o:=4) rfl Xp) ?_;simp;refine aa.trim [6] [0,1,3] 4 V1 yA ⟨_,?_,rfl,?_,rfl⟩
   ·simp[qa,h1,q9,bA]
   ·simp[qa,h1]
  ·have h1:¬ (cq L i 3).1=1:=by simpa using h
   apply T.skip;simp;apply aq;simp[hC];refine TL.cU ah [0] 1 (cL L _ size Wl hL hs yA) RT rfl rfl rfl rfl xr SZ SY rfl (TL.go' ah ?_);simp[hC];apply T.ret;refine aa.le (Le.trim [6] [0,1,3,4] 5 yCz yA) ?_;simp;refine aa.le (Le.nz [] [4]) ?_;simp;refine aa.le (Le.dn (o:=4) rfl Xp) ?_;simp;refine aa.trim [6] [0,1,3] 4 V1 yA ⟨_,?_,rfl,?_,rfl⟩
   ·simp[qa,bf,eS,h1]
   ·simp[qa,h1]
def lO:List CV:=[.str ⟨#[]⟩,.aj]
def g7 (nm:ByteArray)(ps:List Pm)(bc:List CV)(bn:Nat):List CV:=[.str nm,.ax (ps.flatMap lU) ps.length,.ax bc bn]
section
variable (L:List Int)(vars:List ByteArray)(gs:List Gl)(ms:List Mx)(nf left:Nat)(ar:Bool)(i:Nat)(nm:ByteArray)(ps:List Pm)(bc:List CV)(bn:Nat)
def J86 (m:Nat)(s:St):Prop:=∃ k:Nat,m=ms.length-k/\k<=ms.length/\
 s=⟨[(8,I k),(7,.bb 6 0 k),(6,.aw 5 0),(4,.aw 4 0),(0,.aw 1 0),(2,.bb 3 0 vars.length)],[(0,aG L i),(1,bK gs ms nf left ar),(3,bt vars),(4,⟨136,0,g7 nm ps bc bn⟩),(5,⟨204,0,lO⟩),(6,bt ((ms.take k).map (·.name)))],7⟩
def K86 (m:Nat)(s:St):Prop:=∃ k:Nat,m=ps.length-k/\k<=ps.length/\
 s=⟨[(10,I k),(9,I ms.length),(7,.bb 6 0 (cd ms (ps.take k)).length),(6,.aw 5 0),(4,.aw 4 0),(0,.aw 1 0),(2,.bb 3 0 vars.length)],[(0,aG L i),(1,bK gs ms nf left ar),(3,bt vars),(4,⟨136,0,g7 nm ps bc bn⟩),(5,⟨204,0,lO⟩),(6,bt (cd ms (ps.take k)))],7⟩
end
theorem vA (L:List Int)(hL:L.length<=1000)(vars:List ByteArray)(hv:vars.length<=1000)(gs:List Gl)(ms:List Mx)(hm:0<ms.length)(XQ:ms.length<=100)(R0:∀ m∈ms,m.size<=1000)(nf left:Nat)(ar:Bool)(i:Nat)(hi:i<=L.length)
  (nm:ByteArray) (ps:List Pm) (hp:ps.length<=100) (bc:List CV) (bn:Nat) :
  Body prog av 123 [.aw 1 0,.agg (g7 nm ps bc bn),.bb 3 0 vars.length] [(0,aG L i),(1,bK gs ms nf left ar),(3,bt vars)] 4 (jC (.agg (lN (jH L ar ms ps vars i).1)) [(0,aG L (jH L ar ms ps vars i).2),(1,bK gs ms nf left ar),(3,bt vars)] 4):=by
 generalize SP:jH L ar ms ps vars i=res;refine Body.jv Tryz.func123 rfl Ix (by simp[Tryz.ntmps123]) λ C hC RR=>?_;rw[Tryz.ntmps123] at hC;apply aq;simp[hC,g7];apply aq;simp[hC];apply aW;simp[hC];apply T.block;refine T.aH (J86 L vars gs ms nf left ar i nm ps bc bn) (n:=ms.length) ?_ ?_
 ·refine aa.le (Le.own 7 9 1 rfl) (aa.trim [8,7,6,4,0,2] [0,1,3,4,5,6] 7 (by simp[aG,bK]) yA ⟨0,rfl,Nat.zero_le _,?_⟩);simp[bt,lO,g7]
 ·rintro n s ⟨k,rfl,hk,rfl⟩;have ZA:((ms.take k).map (·.name)).length=k:=by simp;omega
  generalize hN:(ms.take k).map (·.name)=N at ZA;apply aW;simp[hC,bK];refine T.bu rfl (λ h=>?_) (λ h=>?_)
  ·have R8:k<ms.length:=by simpa using h
   obtain⟨m,Z8⟩:∃ m,ms[k]? = some m:=⟨ms[k],getElem?_eq_getElem R8⟩;have hd:=aI (f:=cH) (n:=3) (λ _=>rfl) Z8;have wi:=cF ((k:Int)+1) yA yA;have hb:(k+1)*16<=140737488355328:=by omega
   have R3:ms.take (k+1)=ms.take k++[m]:=by rw[take_add_one,Z8];rfl
   have hN':(ms.take (k+1)).map (·.name)=N++[m.name]:=by rw[R3,map_append,hN];rfl
   apply T.skip;simp;refine T.seq (T.block (T.go' ah ?_));simp[hC,R8,hd,cH,bt,hb,ZA];apply aN;simp[hC,wi];refine⟨ms.length-(k+1),by omega,aa.le (Le.trim [8,7,6,4,0,2] [0,1,3,4,5,8] 9 (by simp[aG,g7,lO]) yA) ?_⟩;simp;refine aa.le (Le.p7 8 6 rfl rfl yA xr (by simp ) (by simp[aG,ints,g7,lO])) ?_;simp[aG,ints,g7,lO];refine aa.trim [8,7,6,4,0,2] [0,1,3,4,5,6] 7 xr yA ⟨k+1,rfl,R8,?_⟩;simp only[hN'];simp[bt,lO,g7,bK,aG,ints]
  ·have R8:k=ms.length:=by
    have:¬ k<ms.length:=by simpa using h
    omega
   subst R8;rw[take_length] at hN;apply T.exit;simp;refine T.le (Le.trim [7,6,4,0,2] [0,1,3,4,5,6] 7 (by simp[aG,g7,lO,bt]) yA) ?_;simp;apply aq;simp[hC,bt];apply aW;simp[hC];apply T.block;refine T.aH (K86 L vars gs ms nf left ar i nm ps bc bn) (n:=ps.length) ?_ ?_
   ·refine aa.trim [10,9,7,6,4,0,2] [0,1,3,4,5,6] 7 (by simp[aG,g7,lO]) yA ⟨0,rfl,Nat.zero_le _,?_⟩;simp[bt,lO,g7,cd,<- hN,bK]
   ·rintro n s ⟨j,rfl,hj,rfl⟩;have hNl2:(cd ms (ps.take j)).length<=300:=by
     have:∀ l:List Pm,(l.flatMap Ir).length<=l.length*2:=by
      intro l
      induction l with
      | nil=>simp
      | cons a r ih=>
       simp only[flatMap_cons,length_append,length_cons];have:(Ir a).length<=2:=by unfold Ir;split<;>simp
       omega
     have h1:=this (ps.take j);simp only[cd,length_append,length_map];simp only[length_take] at h1;omega
    generalize hN2:cd ms (ps.take j)=N2 at hNl2;apply aW;simp[hC,g7];refine T.bu rfl (λ h=>?_) (λ h=>?_)
    ·have Sv:j<ps.length:=by simpa using h
     obtain⟨p,hpj⟩:∃ p,ps[j]? = some p:=⟨ps[j],getElem?_eq_getElem Sv⟩;have hd:=aI (f:=lU) (n:=2) (λ _=>rfl) hpj;have SU:=b9 (f:=lU) (n:=2) (λ _=>rfl) hpj 1 yA;have wi:=cF ((j:Int)+1) yA yA;have R3:ps.take (j+1)=ps.take j++[p]:=by rw[take_add_one,hpj];rfl
     have hN3:cd ms (ps.take (j+1))=N2++Ir p:=by rw[R3,<- hN2];simp[cd]
     apply T.skip;simp;refine T.seq (T.block (aq ?_));simp[hC,Sv,SU,lU];refine T.cond (b:=p.mutex) rfl ?_
     cases YI:p.mutex with
     | true=>
      have Up:Ir p=[p.name,p.name]:=by simp[Ir,YI]
      have hb:(N2.length+2)*16<=140737488355328:=by omega
      simp;refine T.rx ah follows [0,1,2,3,4,5,6,7,8,9,10,11,12,13,14,15] [] Ix ?_;simp[hC,Sv,hd,lU,bt,hb];apply aN;simp[hC,wi];refine⟨ps.length-(j+1),by omega,aa.le (Le.trim [10,9,7,6,4,0,2] [0,1,3,4,5,23] 24 (by simp[aG,lO,bK]) yA) ?_⟩;simp;refine aa.le (Le.p7 23 6 rfl rfl yA xr (by simp ) (by simp[aG,ints,lO,bK])) ?_;simp[aG,ints,lO,bK];refine aa.trim [10,9,7,6,4,0,2] [0,1,3,4,5,6] 7 xr yA ⟨j+1,rfl,Sv,?_⟩;simp only[hN3,Up];simp[bt,lO,g7,bK,aG,ints]
     | false=>
      have Up:Ir p=[]:=by simp[Ir,YI]
      simp;apply T.skip;simp;apply aN;simp[hC,wi];refine⟨ps.length-(j+1),by omega,aa.trim [10,9,7,6,4,0,2] [0,1,3,4,5,6] 7 (by simp[aG,lO,bK,bt]) yA ⟨j+1,rfl,Sv,?_⟩⟩;simp only[hN3,Up];simp[bt,lO,g7,bK,aG,ints]
    ·have Sv:j=ps.length:=by
      have:¬ j<ps.length:=by simpa using h
      omega
     subst Sv;rw[take_length] at hN2;apply T.exit;simp;refine T.le (Le.trim [9,7,6,4,0,2] [0,1,3,4,5,6] 7 (by simp[aG,lO,bt,bK]) yA) ?_;simp;have hN0:0<N2.length:=by rw[<- hN2];simp[cd];omega
     apply aq;simp[hC,bK];refine TL.cU ah [0] 1 (cL L i N2.length hi hL hN0 yA) RT rfl rfl rfl rfl xr SZ SY rfl (TL.go' ah ?_);simp[hC];have Sz:=bq L N2.length hi;have RS:=dE L i hN0;have Ui:res=if (cq L i N2.length).1<ms.length/\0<lM ms (cq L i N2.length).1 then
       (⟨N2.getD (cq L i N2.length).1 eS,some (qa L ar vars (lM ms (cq L i N2.length).1) (cq L i N2.length).2).1⟩,(qa L ar vars (lM ms (cq L i N2.length).1) (cq L i N2.length).2).2)
       else (⟨N2.getD (cq L i N2.length).1 eS,none⟩,(cq L i N2.length).2):=by rw[<- hN2,<- SP];rfl
     generalize cq L i N2.length=k at Sz RS Ui;have Qd:=ju RS;apply aq;simp[hC,bt,RS,Qd];have Vc:N2.getD k.1 eS=N2[k.1]:=by simp[getD,RS]
     rw[Vc] at Ui;refine T.le (Le.trim [12,11,9,6,0,2] [0,1,3,5,7] 8 (by simp[aG,lO]) yA) ?_;simp;refine T.seq (T.seq ?_);by_cases YM:k.1<ms.length
     ·obtain⟨m,Z8⟩:∃ m,ms[k.1]? = some m:=⟨ms[k.1],getElem?_eq_getElem YM⟩;have hd:=b9 (f:=cH) (n:=3) (λ _=>rfl) Z8 2 yA;have hsa:lM ms k.1=m.size:=by simp[lM,Z8]
      have Tf:=R0 m (mem_of_getElem? Z8);have WJ:=b9 (f:=cH) (n:=3) (λ _=>rfl) Z8 0 yA;rw[hsa] at Ui;apply aN;simp[hC,YM,hd,cH];refine T.bu rfl (λ h=>?_) (λ h=>?_)
      ·have YE:0<m.size:=by simpa using h
       rw[if_pos ⟨YM,YE⟩] at Ui;apply aN;simp[hC,YM,hd,cH];refine TL.cU ah [0,1,3] 4 (G3 L hL vars hv gs ms nf left m.size YE Tf ar k.2 Sz) RT rfl rfl rfl rfl xr rfl (by first | rfl | simp[aG,ints,bK]) rfl (TL.go' ah ?_);simp[hC,bA,aY];apply aq;simp[hC,lO];apply T.ret;refine aa.le (Le.trim [6] [0,1,3,5,8] 9 (by simp[aG,bK,-all_eq_true,gV]) yA) ?_;simp;refine aa.le (Le.dn (o:=8) rfl (aL _)) ?_;simp;refine aa.le (Le.dn (o:=5) rfl rfl) ?_;simp;refine aa.trim [6] [0,1,3] 4 (by simp[aG,bK]) yA ⟨_,?_,rfl,?_,rfl⟩
       ·simp[Ui,lN,oc]
       ·simp[Ui,bK,bt]
      ·have YE:¬ 0<m.size:=by simpa using h
       rw[if_neg λ h=>YE h.2] at Ui;apply T.skip;simp;apply aq;simp[hC,lO];apply T.ret;refine aa.le (Le.trim [6] [0,1,3,5] 8 yCz yA) ?_;simp;refine aa.le (Le.nz [] [5]) ?_;simp;refine aa.le (Le.dn (o:=5) rfl Xp) ?_;simp;refine aa.trim [6] [0,1,3] 4 V1 yA ⟨_,?_,rfl,?_,rfl⟩
       ·simp[Ui,lN,oc]
       ·simp[Ui]
     ·rw[if_neg λ h=>YM h.1] at Ui;apply aN;simp[hC,YM];refine fX ?_;simp;apply aq;simp[hC,lO];apply T.ret;refine aa.le (Le.trim [6] [0,1,3,5] 8 yCz yA) ?_;simp;refine aa.le (Le.nz [] [5]) ?_;simp;refine aa.le (Le.dn (o:=5) rfl Xp) ?_;simp;refine aa.trim [6] [0,1,3] 4 V1 yA ⟨_,?_,rfl,?_,rfl⟩
      ·simp[Ui,lN,oc]
      ·simp[Ui]
theorem vV (x:Ar):(qc x).length=7:=by cases x<;>simp[qc,lN,lP,bA]
theorem qS (L:List Int)(ar:Bool)(ms:List Mx)(ps:List Pm)(vars:List ByteArray)(p:Pm):∀ (l:List Pm) (i:Nat),dx L ar ms ps vars (l++[p]) i=((dx L ar ms ps vars l i).1++(dx L ar ms ps vars [p] (dx L ar ms ps vars l i).2).1,(dx L ar ms ps vars [p] (dx L ar ms ps vars l i).2).2)
 | [],i=>by simp[dx]
 | q::r,i=>by
  rw[cons_append,dx,dx];split
  ·rw[qS L ar ms ps vars p r];simp
  ·rw[qS L ar ms ps vars p r];simp
theorem uH (L:List Int)(ar:Bool)(ms:List Mx)(ps:List Pm)(vars:List ByteArray):∀ (l:List Pm) (i:Nat),(dx L ar ms ps vars l i).1.length=l.length
 | [],i=>rfl
 | q::r,i=>by
  rw[dx];split<;>simp[uH L ar ms ps vars r]
@[simp] theorem PS (l:List Ar):(l.flatMap qc).map nz=l.flatMap qc:=by
 induction l with
 | nil=>rfl
 | cons a r ih=>
  rw[flatMap_cons,map_append,ih];congr 1;rcases a with ⟨_,_ | _⟩ | e<;>simp[qc,lN,lP,oc,bf]
@[simp] theorem nz_opC (e:Option Ex):nz (oc e)=oc e:=by cases e<;>rfl
@[simp] theorem tree_opC (e:Option Ex):tree (oc e)=true:=by cases e<;>rfl
@[simp] theorem Pz (n:Nat)(e:Option Ex):aU n (oc e)=true:=by cases e<;>rfl
@[simp] theorem Rj (n:Nat)(e:Option Ex):aP n (oc e)=true:=by cases e<;>rfl
@[simp] theorem ok1_opC (o q:Nat)(e:Option Ex):od o q (oc e)=true:=by cases e<;>rfl
@[simp] theorem ren1_opC (o q:Nat)(e:Option Ex):dC o q (oc e)=oc e:=by cases e<;>rfl
@[simp] theorem frzV_opC (o:Nat)(cs:List CV)(n:Nat)(e:Option Ex):cw o cs n (oc e)=oc e:=by cases e<;>rfl
theorem AB (o q:Nat)(e:Ex):(bf e).all (od o q)=true:=bw (aL e) o q
@[simp] theorem ren1_exC (o q:Nat)(e:Ex):(bf e).map (dC o q)=bf e:=bl (aL e) o q
theorem G7 (l:List Ar):trees (l.flatMap qc)=true:=by
 induction l with
 | nil=>rfl
 | cons a r ih=>
  rw[flatMap_cons,bg,ih,Bool.and_true];rcases a with ⟨_,_ | _⟩ | e<;>simp only[qc,lN,lP,oc,cons_append,nil_append,trees,tree,aL,Bool.and_self]
section
variable (L:List Int)(vars:List ByteArray)(gs:List Gl)(ms:List Mx)(nf left:Nat)(ar:Bool)(i:Nat)(nm:ByteArray)(ps:List Pm)(bc:List CV)(bn:Nat)(nm':ByteArray)(TA:List Pm)(bc':List CV)(bn':Nat)
def J88 (m:Nat)(s:St):Prop:=∃ k:Nat,m=TA.length-k/\k<=TA.length/\
 s=⟨[(10,I k),(9,.bb 6 0 k),(6,.aw 5 0),(5,.aw 4 0),(0,.aw 1 0),(3,.bb 3 0 vars.length)],[(0,aG L (dx L ar ms ps vars (TA.take k) i).2),(1,bK gs ms nf left ar),(3,bt vars),(4,⟨136,0,g7 nm ps bc bn⟩),(5,⟨136,0,g7 nm' TA bc' bn'⟩),(6,⟨243,7,(dx L ar ms ps vars (TA.take k) i).1.flatMap qc⟩)],7⟩
end
theorem IM (L:List Int)(hL:L.length<=1000)(vars:List ByteArray)(hv:vars.length<=1000)(gs:List Gl)(ms:List Mx)(hm:0<ms.length)(XQ:ms.length<=100)(R0:∀ m∈ms,m.size<=1000)(nf left:Nat)(ar:Bool)(i:Nat)(hi:i<=L.length)
  (nm:ByteArray) (ps:List Pm) (hp:ps.length<=100) (bc:List CV) (bn:Nat) (nm':ByteArray) (TA:List Pm) (Wh:TA.length<=100) (bc':List CV) (bn':Nat) :
  Body prog av 125 [.aw 1 0,.agg (g7 nm ps bc bn),.agg (g7 nm' TA bc' bn'),.bb 3 0 vars.length] [(0,aG L i),(1,bK gs ms nf left ar),(3,bt vars)] 4
   (jC (.ax ((dx L ar ms ps vars TA i).1.flatMap qc) TA.length) [(0,aG L (dx L ar ms ps vars TA i).2),(1,bK gs ms nf left ar),(3,bt vars)] 4):=by
 refine Body.jv Tryz.func125 rfl Ix (by simp[Tryz.ntmps125]) λ C hC RR=>?_;rw[Tryz.ntmps125] at hC;apply aq;simp[hC,g7];apply aq;simp[hC];apply aW;simp[hC];apply T.block;refine T.aH (J88 L vars gs ms nf left ar i nm ps bc bn nm' TA bc' bn') (n:=TA.length) ?_ ?_
 ·refine aa.le (Le.own 9 243 7 rfl) (aa.trim [10,9,6,5,0,3] [0,1,3,4,5,6] 7 (by simp[aG,bK]) yA ⟨0,rfl,Nat.zero_le _,?_⟩);simp[dx,g7]
 ·rintro n s ⟨k,rfl,hk,rfl⟩;have hAl:(dx L ar ms ps vars (TA.take k) i).1.length=k:=by rw[uH];simp;omega
  have Sz:(dx L ar ms ps vars (TA.take k) i).2<=L.length:=sO _ _ _ _ _ _ hi;have SK:=aC (f:=qc) (n:=7) vV (dx L ar ms ps vars (TA.take k) i).1;rw[hAl] at SK;have RW:=G7 (dx L ar ms ps vars (TA.take k) i).1;generalize hA:dx L ar ms ps vars (TA.take k) i=A at hAl Sz SK RW;have hnz:=PS A.1;generalize hX:A.1.flatMap qc=X at SK RW hnz;have hl8:=ai RW 9;have Sg:=bw RW 8 6;have U5:=bl RW 8 6;have hl6:=ai RW 7;apply aW;simp[hC,g7];refine T.bu rfl (λ h=>?_) (λ h=>?_)
  ·have R8:k<TA.length:=by simpa using h
   obtain⟨p,U7⟩:∃ p,TA[k]? = some p:=⟨TA[k],getElem?_eq_getElem R8⟩;have SU:=b9 (f:=lU) (n:=2) (λ _=>rfl) U7 1 yA;have wi:=cF ((k:Int)+1) yA yA;have R3:TA.take (k+1)=TA.take k++[p]:=by rw[take_add_one,U7];rfl
   have hA1:dx L ar ms ps vars (TA.take (k+1)) i=(A.1++(dx L ar ms ps vars [p] A.2).1,(dx L ar ms ps vars [p] A.2).2):=by rw[R3,qS,hA]
   have hb:(k+1)*104<=140737488355328:=by omega
   apply T.skip;simp;refine T.seq (T.block (aq ?_));simp[hC,R8,SU,lU];refine T.cond (b:=p.mutex) rfl ?_
   cases YI:p.mutex with
   | true=>
    have Ui:dx L ar ms ps vars [p] A.2=([.xf (jH L ar ms ps vars A.2).1],(jH L ar ms ps vars A.2).2):=by simp[dx,YI]
    rw[Ui] at hA1;simp;apply aN;simp[hC];refine TL.cU ah [0,1,3] 4 (vA L hL vars hv gs ms hm XQ R0 nf left ar A.2 Sz nm ps hp bc bn) RT rfl rfl rfl rfl xr rfl (by first | rfl | simp[aG,ints,bK]) rfl (TL.go' ah ?_);simp[hC,lN,aY,SK,hb];apply aN;simp[hC,wi];refine⟨TA.length-(k+1),by omega,aa.le (Le.trim [10,9,6,5,0,3] [0,1,3,4,5,8] 9 (by simp[aG,bK,-all_eq_true,hl8]) yA) ?_⟩;simp;refine aa.le (Le.nz [] [8]) ?_;simp[hnz];refine aa.le (Le.p7 8 6 rfl rfl yA xr (by simp ) (by simp[aG,ints,bK,-all_eq_true,Sg])) ?_;simp[aG,ints,bK,U5];refine aa.trim [10,9,6,5,0,3] [0,1,3,4,5,6] 7 (by simp[-all_eq_true,hl6]) yA ⟨k+1,rfl,R8,?_⟩;simp only[hA1];simp[g7,bK,aG,ints,qc,lN,bf,eS,hX]
   | false=>
    have Ui:dx L ar ms ps vars [p] A.2=([.exp (dH L ar vars A.2).1],(dH L ar vars A.2).2):=by simp[dx,YI]
    rw[Ui] at hA1;simp;apply aN;simp[hC];refine TL.cU ah [0,1,3] 4 (oy L hL vars hv gs ms nf left ar A.2 Sz) RT rfl rfl rfl rfl xr rfl (by first | rfl | simp[aG,ints,bK]) rfl (TL.go' ah ?_);simp[hC,bA,aY,SK,hb];apply aN;simp[hC,wi];refine⟨TA.length-(k+1),by omega,aa.le (Le.trim [10,9,6,5,0,3] [0,1,3,4,5,8] 9 (by simp[aG,bK,-all_eq_true,hl8,gV]) yA) ?_⟩;simp;refine aa.le (Le.nz [] [8]) ?_;simp[hnz];refine aa.le (Le.p7 8 6 rfl rfl yA xr (by simp ) (by simp[aG,ints,bK,-all_eq_true,Sg,AB])) ?_;simp[aG,ints,bK,U5];refine aa.trim [10,9,6,5,0,3] [0,1,3,4,5,6] 7 (by simp[-all_eq_true,hl6,gV]) yA ⟨k+1,rfl,R8,?_⟩;simp only[hA1];simp[g7,bK,aG,ints,qc,lP,eS,hX]
  ·have R8:k=TA.length:=by
    have:¬ k<TA.length:=by simpa using h
    omega
   subst R8;rw[take_length] at hA;rw[hA];apply T.exit;simp;apply aq;simp[hC];apply T.ret;refine aa.le (Le.trim [8] [0,1,3,6] 7 (by simp[aG,bK,-all_eq_true,hl6]) yA) ?_;simp;refine aa.le (Le.dn (o:=6) rfl RW) ?_;have hxt:X.take (TA.length*7)=X:=take_of_length_le yA;simp[hxt];refine aa.trim [8] [0,1,3] 4 (by simp[aG,bK]) yA ⟨_,?_,rfl,?_,rfl⟩
   ·simp[hX]
   ·simp[bK]
end Go.Proofs.YtlkmbdfhdknlgaaGreat
