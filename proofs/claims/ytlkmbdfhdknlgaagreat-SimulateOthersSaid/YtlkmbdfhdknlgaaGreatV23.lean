/- The interpreter with all o -/
import Derived.Test.YtlkmbdfhdknlgaaGreatV22
namespace Go.Can
open Go.RowKit List
structure IP where
 av:List (Nat×TI)
 mt:iO
 al:FuncId->Bool
 pu:FuncId->Bool
 orc:FuncId->Nat->Option (List (Nat×Nat))
 Fz:List (FuncId×List CV×CV)
 mi:List MI:=[]
 ei:List EI:=[]
def knl:List (FuncId×List CV×CV)->FuncId->List CV->Option CV
 | [],_,_=>none
 | (h,ds,r)::l,g,cs=>if (h == g && sE ds cs)=true then some r else knl l g cs
abbrev pb:=FuncId->List CV->Option CV
def CK (I:IP)(n0 nt:Nat)(ops:Array Oper)(call:fW)(pcall:pb)(o:Oper)(s:St):Option St:=
 match cB o with
 | none=>match gB I.av nt ops s o with
  | some s'=>some s'
  | none=>match bW ops s o with
   | some true=>if bl nt o.dst=true then match Dr n0 I.av s o with
     | some s'=>some s'
     | none=>match Ht I.mi n0 s o with
      | some s'=>some s'
      | none=>match Bm I.ei s o with
       | some s'=>some s'
       | none=>IG I.av s o
    else none
   | _=>none
 | some c=>match bW ops s o with
  | some true=>if bl nt o.dst=true then match jE I.mt s c with
    | some (g,cs)=>match (if trees cs then pcall g cs else none) with
     | some r=>some (s.put o.dst r)
     | none=>match call g cs s.heap s.nx with
      | some (x,H,n)=>some (St.put ⟨s.env,H,n⟩ o.dst x)
      | none=>none
    | none=>none
   else none
  | _=>gB I.av nt ops s o
def AP (I:IP)(n0 nt:Nat)(ops:Array Oper)(call:fW)(pcall:pb):List Oper->St->Option St
 | [],s=>some s
 | o::r,s=>match CK I n0 nt ops call pcall o s with
  | some s'=>AP I n0 nt ops call pcall r s'
  | none=>none
def drX (I:IP)(call:fW)(pcall:pb)(g:FuncId)(_n0 nt:Nat)(id:Nat)(ops:Array Oper)(s:St):Option St:=match I.orc g id with
 | none=>none
 | some dyn=>KY I.av I.mt nt ops call pcall (range ops.size) dyn s
def M5 (I:IP)(g:FuncId)(id:Nat)(ops:Array Oper)(d:Bool):Bool:=!d || match I.orc g id with
 | some dyn=>uQ ops false (range ops.size) dyn
 | none=>true
def GY (I:IP)(call:fW)(pcall:pb)(g:FuncId)(n0 nt:Nat)(id:Nat)(ops:Array Oper)(d:Bool)(s:St):Option St:=
 if d then drX I call pcall g n0 nt id ops s else AP I n0 nt ops call pcall ops.toList s
def v9 (I:IP)(go:FuncId->List CV->List (Nat×Ob)->Nat->Option (Func×St)):fW:=λ g cs H n=>match go g cs H n with
 | some (fn,s)=>match bQ I.av fn s with
  | some r=>some (r,s.heap,s.nx)
  | none=>none
 | none=>none
def pT (I:IP)(go:FuncId->List CV->List (Nat×Ob)->Nat->Option (Func×St)):pb:=λ g cs=>match knl I.Fz g cs with
 | some r=>some r
 | none=>if I.pu g then match go g cs [] 0 with
  | some (fn,s)=>match bQ I.av fn s with
   | some r=>deep s.heap 60 r
   | none=>none
  | none=>none
  else none
def aG (P:Program)(I:IP):Nat->FuncId->List CV->List (Nat×Ob)->Nat->Option (Func×St)
 | 0,_,_,_,_=>none
 | f+1,g,cs,H,n=>match P.funcs[g]? with
  | none=>none
  | some fn=>match fn.body with
   | none=>none
   | some c => if (fn.name == "runtime.NumGoroutine") = false /\ cs.length <= fn.ntmps /\ I.al g = true then
     match nE (GY I (v9 I (aG P I f)) (pT I (aG P I f)) g n fn.ntmps) f c ⟨(enter cs).env,H,n⟩ with
     | some (.normal,s')=>some (fn,s')
     | some (.ret,s')=>some (fn,s')
     | _=>none
    else none
section
variable {P:Program}{C:Cx}{s:St}{I:IP}{ops:Array Oper}{call:fW}{pcall:pb}
structure LP (P:Program)(I:IP):Prop where
 kn:∀ x∈I.Fz,af P x.1 x.2.1 x.2.2
 av:aD P I.av
 mt:j0 P I.mt
 mi:ND P I.mi
 ei:IY P I.ei
 md:P.follows .mixedOrders=true
 gd:∀ g fn c,I.al g=true->P.funcs[g]? = some fn->fn.body=some c->gT (M5 I g) c=true
theorem Fj (hI:LP P I)(hc:gF P I.av call)(hp:wW P pcall){o:Oper}{l:List Oper}{s':St}{K:St->Prop}(h:CK I C.n0 C.nt ops call pcall o s=some s')(hk:TL P C ops l s' K):TL P C ops (o::l) s K:=by
 unfold CK at h;split at h
 ·split at h
  ·rename_i s1 h1;cases h;exact TL.step hI.av h1 hk
  ·split at h
   ·rename_i hg;split at h
    ·rename_i hd;split at h
     ·rename_i s1 h1;cases h;exact l9 hg (zP hI.av hd h1) hk
     ·split at h
      ·rename_i s1 h1;cases h;exact l9 hg (Hr hI.mi hd h1) hk
      ·split at h
       ·rename_i s1 h1;cases h;exact l9 hg (vS hI.ei hd h1) hk
       ·exact l9 hg (IF hI.av hd h) hk
    ·cases h
   ·cases h
 ·rename_i c hu;have Pj:=gN hu;split at h
  ·rename_i hg;split at h
   ·rename_i hd;split at h
    ·rename_i g cs Pc;split at h
     ·rename_i r hr;cases h;split at hr
      ·rename_i ht;have hP:=hp g cs r hr;exact pureE hd hg (yn.to hI.mt Pj Pc hP.1) ht hP hk
      ·cases hr
     ·split at h
      ·rename_i x H n hx;cases h;have hB:=hc _ _ _ _ _ _ _ hx;have hE:kC P g:=by
        obtain⟨fn,c,h1,h2,h3,_⟩:=hB;exact⟨fn,h1,h3,by simp[h2]⟩
       refine callE hI.av hd hg (yn.to hI.mt Pj Pc hE) hB ?_;rintro r s1 ⟨rfl,rfl,rfl⟩;exact hk
      ·cases h
    ·cases h
   ·cases h
  ·exact TL.step hI.av h hk
theorem AO (hI:LP P I)(hc:gF P I.av call)(hp:wW P pcall):∀ (l:List Oper) (s s':St),AP I C.n0 C.nt ops call pcall l s=some s'->TL P C ops l s λ x=>x=s'
 | [],s,s',h=>by
  simp only[AP] at h;cases h;exact TL.nil rfl
 | o::r,s,s',h=>by
  simp only[AP] at h;split at h
  ·rename_i s1 h1;exact Fj hI hc hp h1 (AO hI hc hp r s1 s' h)
  ·cases h
theorem M9 (hI:LP P I)(hc:gF P I.av call)(hp:wW P pcall)(g:FuncId)(id:Nat)(ops:Array Oper)(s s':St)(hg:M5 I g id ops true=true)(h:drX I call pcall g C.n0 C.nt id ops s=some s'):T P C (.region id ops true) s λ e x=>e=.normal/\x=s':=by
 unfold drX at h;unfold M5 at hg;split at h
 ·cases h
 ·rename_i dyn ho;rw[ho] at hg;exact T.trace hI.av hI.mt hc hp hI.md (by simpa using hg) h
theorem JE (hI:LP P I)(hc:gF P I.av call)(hp:wW P pcall)(g:FuncId):IS P C (M5 I g) (GY I call pcall g C.n0 C.nt):=by
 intro id ops d s s' hg h;unfold GY at h
 cases d with
 | true=>exact M9 hI hc hp g id ops s s' hg Sa
 | false=>
  have hl:=AO (ops:=ops.toList.toArray) hI hc hp ops.toList s s' Sa
  simpa using TL.again (id:=id) hl
def NF (P : Program) (go : FuncId -> List CV -> List (Nat × Ob) -> Nat -> Option (Func × St)) : Prop := ∀ g cs H n fn s', go g cs H n = some (fn, s') -> ∃ c, P.funcs[g]? = some fn /\ fn.body = some c /\ (fn.name == "runtime.NumGoroutine") = false /\ cs.length <= fn.ntmps /\
 ∀ C:Cx,C.nt=fn.ntmps->C.n0=n->T P C c ⟨(enter cs).env,H,n⟩ λ e x=>(e=.normal\/e=.ret)/\x=s'
theorem FW {go:FuncId->List CV->List (Nat×Ob)->Nat->Option (Func×St)}(h:NF P go):gF P I.av (v9 I go):=by
 intro g cs H n x H' n' hx;unfold v9 at hx;split at hx
 ·rename_i fn s' hg;split at hx
  ·rename_i r hr;cases hx;obtain⟨c,h1,h2,h3,h4,h5⟩:=h _ _ _ _ _ _ hg;refine Body.jb h1 h2 h3 h4 λ C hC OR=>T.mono (h5 C hC OR) ?_;rintro e x ⟨rfl | rfl,rfl⟩<;>exact aa.here ⟨_,hr,rfl,rfl,rfl⟩
  ·cases hx
 ·cases hx
theorem D0:∀ (l:List (FuncId×List CV×CV)) (g:FuncId) (cs:List CV) (r:CV),knl l g cs=some r->(g,cs,r)∈l
 | [],_,_,_,h=>by simp[knl] at h
 | (h',ds,r')::l,g,cs,r,h=>by
  simp only[knl] at h;split at h
  ·rename_i e;simp only[Bool.and_eq_true,beq_iff_eq] at e;cases h;rw[jW _ _ e.2,e.1];exact mem_cons_self
  ·exact mem_cons_of_mem _ (D0 l g cs r h)
theorem xx (ht:aD P I.av)(hk:∀ x∈I.Fz,af P x.1 x.2.1 x.2.2){go:FuncId->List CV->List (Nat×Ob)->Nat->Option (Func×St)}(h:NF P go):wW P (pT I go):=by
 intro g cs r hx;unfold pT at hx;split at hx
 ·rename_i r' X2;cases hx;exact hk _ (D0 _ _ _ _ X2)
 ·split at hx
  ·split at hx
   ·rename_i fn s' hg;split at hx
    ·rename_i r0 hr;obtain⟨c,h1,h2,h3,h4,h5⟩:=h _ _ _ _ _ _ hg;refine af.JY ht h1 h2 h3 h4 λ C hC OR=>T.mono (h5 C hC OR) ?_;rintro e x ⟨rfl | rfl,rfl⟩<;>exact⟨r0,60,hr,hx⟩
    ·cases hx
   ·cases hx
  ·cases hx
theorem HX (hI:LP P I):∀ f,NF P (aG P I f)
 | 0=>λ _ _ _ _ _ _ h=>by simp[aG] at h
 | f+1=>λ g cs H n fn s' h=>by
  have ih:=HX hI f;simp only[aG] at h;split at h
  ·cases h
  ·rename_i fn' hf;split at h
   ·cases h
   ·rename_i c hb;split at h
    ·rename_i UX
     cases hx:nE (GY I (v9 I (aG P I f)) (pT I (aG P I f)) g n fn'.ntmps) f c ⟨(enter cs).env,H,n⟩ with
     | none=>rw[hx] at h;cases h
     | some q=>
      rw[hx] at h;obtain⟨e3,s1⟩:=q;have hT:∀ C:Cx,C.nt=fn'.ntmps->C.n0=n->T P C c ⟨(enter cs).env,H,n⟩ λ e x=>e=e3/\x=s1:=λ C hC OR=>by
       have hR:IS P C (M5 I g) (GY I (v9 I (aG P I f)) (pT I (aG P I f)) g C.n0 C.nt):=JE hI (FW ih) (xx hI.av hI.kn ih) g;rw[hC,OR] at hR;exact T.mono (Eb hR f c _ _ (hI.gd g fn' c UX.2.2 hf hb) hx) λ e x he=>he
      cases e3<;>simp only at h<;>first | cases h | skip
      all_goals
       exact⟨c,hf,hb,UX.1,UX.2.1,λ C hC OR=>T.mono (hT C hC OR) λ e x he=>⟨by simp[he.1],he.2⟩⟩
    ·cases h
theorem ep (hI:LP P I)(f:Nat){g:FuncId}{cs:List CV}{r:CV}(h:pT I (aG P I f) g cs=some r):af P g cs r:=xx hI.av hI.kn (HX hI f) g cs r h
end
def Bc (P:Program)(I:IP)(l:List Nat):Bool:=l.all λ g=>match P.funcs[g]? with
 | some fn=>match fn.body with
  | some c=>gT (M5 I g) c
  | none=>true
 | none=>true
theorem FF {P:Program}(I:IP)(Fz:List (FuncId×List CV×CV))(l:List Nat):Bc P { I with Fz:=Fz } l=Bc P I l:=rfl
theorem Bb {P:Program}{I:IP}{l:List Nat}(h:Bc P I l=true)(hl:∀ g,I.al g=true->g∈l):∀ g fn c,I.al g=true->P.funcs[g]? = some fn->fn.body=some c->gT (M5 I g) c=true:=λ g fn c ha hf hb=>by
 have:=all_eq_true.1 h g (hl g ha);simp only[hf,hb] at this;exact this
def Hy (P:Program)(t:Nat)(name:String)(g:FuncId):Bool:=match P.info? t with
 | some i=>match i.methods.find? (·.name == name) with
  | some m=>match m.path.toList,m.func with
   | [],some (h,false)=>h == g && match P.underlying t with
    | some (.pointer _)=>false
    | some _=>true
    | none=>false
   | _,_=>false
  | none=>false
 | none=>false
theorem Hx {P:Program}{t:Nat}{name:String}{g:FuncId}(h:Hy P t name g=true):zH P t name g:=by
 unfold Hy at h;split at h
 ·rename_i i hi;split at h
  ·rename_i m hm;split at h
   ·rename_i k hp hf;simp only[Bool.and_eq_true,beq_iff_eq] at h;obtain⟨rfl,h2⟩:=h;refine⟨⟨i,m,hi,hm,hp,by rw[Array.isEmpty_iff_size_eq_zero,<- Array.length_toList,hp];rfl,hf⟩,?_⟩;split at h2
    ·cases h2
    ·rename_i d hn hd;exact⟨d,hd,λ e he=>hn e (by rw[he])⟩
    ·cases h2
   ·cases h
  ·cases h
 ·cases h
def DV (P:Program)(mt:iO):Bool:=mt.all λ x=>Hy P x.1.1 x.1.2 x.2
theorem vC {P:Program}{mt:iO}(h:DV P mt=true):j0 P mt:=λ x hx=>Hx (all_eq_true.1 h x hx)
end Go.Can
namespace Go.Proofs.YtlkmbdfhdknlgaaGreat
open Go.Can Go.aV List Tryz
def ral:List Nat:=[200,206]
def rip:IP:=⟨av,[],λ g=>ral.contains g,λ _=>true,λ _ _=>none,[],[],[]⟩
theorem rgd:Bc prog rip ral=true:=by kernel_rfl
theorem u5:LP prog rip:=⟨by simp[rip],ag,vC GK,by intro x hx;simp[rip] at hx,by intro x hx;simp[rip] at hx,follows,Bb (l:=ral) rgd λ g ha=>by simpa [rip] using ha⟩
def vo (k:Nat):List ByteArray×List Int:=match k with
 | 0=>([⟨#[124,124]⟩],[17])
 | 1=>([⟨#[38,38]⟩],[16])
 | 2=>([⟨#[61,61]⟩,⟨#[33,61]⟩,⟨#[60]⟩,⟨#[60,61]⟩,⟨#[62]⟩,⟨#[62,61]⟩],[14,15,10,11,12,13])
 | 3=>([⟨#[43]⟩,⟨#[45]⟩],[8,9])
 | _=>([⟨#[42]⟩,⟨#[47]⟩,⟨#[37]⟩],[5,6,7])
set_option maxRecDepth 100000 in
theorem fL:∀ k:Nat,k<=17->af prog 206 [I k] (I (nS k))
 | 0,_=>ep (I:=rip) u5 300 GK
 | 1,_=>ep (I:=rip) u5 300 GK
 | 2,_=>ep (I:=rip) u5 300 GK
 | 3,_=>ep (I:=rip) u5 300 GK
 | 4,_=>ep (I:=rip) u5 300 GK
 | 5,_=>ep (I:=rip) u5 300 GK
 | 6,_=>ep (I:=rip) u5 300 GK
 | 7,_=>ep (I:=rip) u5 300 GK
 | 8,_=>ep (I:=rip) u5 300 GK
 | 9,_=>ep (I:=rip) u5 300 GK
 | 10,_=>ep (I:=rip) u5 300 GK
 | 11,_=>ep (I:=rip) u5 300 GK
 | 12,_=>ep (I:=rip) u5 300 GK
 | 13,_=>ep (I:=rip) u5 300 GK
 | 14,_=>ep (I:=rip) u5 300 GK
 | 15,_=>ep (I:=rip) u5 300 GK
 | 16,_=>ep (I:=rip) u5 300 GK
 | 17,_=>ep (I:=rip) u5 300 GK
 | _+18,h=>absurd h yA
set_option maxRecDepth 100000 in
theorem GQ:∀ k:Nat,k<=4->af prog 200 [I k] (.bY [strs (vo k).1,ints (vo k).2])
 | 0,_=>ep (I:=rip) u5 300 GK
 | 1,_=>ep (I:=rip) u5 300 GK
 | 2,_=>ep (I:=rip) u5 300 GK
 | 3,_=>ep (I:=rip) u5 300 GK
 | 4,_=>ep (I:=rip) u5 300 GK
 | _+5,h=>absurd h yA
def bO (gs:List Gl)(ms:List Mx)(nf left:Nat)(ar:Bool):Ob:=⟨128,0,[.ax 0 0,.au (gs.flatMap pE) gs.length,.au (ms.flatMap cI) ms.length,.bg 2 0 nf,I left,.bool ar]⟩
@[simp] theorem wrOb_frz (gs:List Gl)(ms:List Mx)(nf left:Nat)(ar:Bool)(o:Nat)(h:o≠0)(h2:o≠2)(cs:List CV)(n:Nat):(⟨(bO gs ms nf left ar).elem,(bO gs ms nf left ar).sz,(bO gs ms nf left ar).cells.map (cK o cs n)⟩:Ob)=bO gs ms nf left ar:=by
 have h':¬ 0=o:=λ e=>h e.symm;have SH:¬ 2=o:=λ e=>h2 e.symm;simp[bO,h',SH]
@[simp] theorem NT (ρ:Nat->Nat)(h0:ρ 0=0)(h2:ρ 2=2)(gs:List Gl)(ms:List Mx)(nf left:Nat)(ar:Bool):bf ρ (bO gs ms nf left ar)=bO gs ms nf left ar:=by
 simp only[bf,bO,aL,cQ,h0,h2]
@[simp] theorem NQ (L:List Int)(i n:Nat):(aI L i).cells.all (aU n)=true:=rfl
@[simp] theorem NM (L:List Int)(i n:Nat):aX n (aI L i).cells=true:=rfl
@[simp] theorem Gn (gs:List Gl)(ms:List Mx)(nf left:Nat)(ar:Bool)(n:Nat)(h:2<n):(bO gs ms nf left ar).cells.all (aU n)=true:=by
 have h':0<n:=by omega
 simp[bO,h,h']
@[simp] theorem wrOb_lts (gs:List Gl)(ms:List Mx)(nf left:Nat)(ar:Bool)(n:Nat)(h:2<n):aX n (bO gs ms nf left ar).cells=true:=by rw[aE];exact Gn gs ms nf left ar n h
theorem xd (r:Rf):trees (ld r)=true:=by
 rcases r with ⟨_,_ | _⟩<;>rfl
theorem nO (L:List Int)(hL:L.length<=1000)(vars:List ByteArray)(hv:vars.length<=1000)(gs:List Gl)(ms:List Mx)(nf left:Nat)(ar:Bool)(i:Nat)(hi:i<=L.length) :
  Body prog av 124 [.ax 1 0,.bg 3 0 vars.length] [(0,aI L i),(1,bO gs ms nf left ar),(3,bw vars)] 4 (jk (.agg (a8 (dH L ar vars i).1)) [(0,aI L (dH L ar vars i).2),(1,bO gs ms nf left ar),(3,bw vars)] 4):=by
 refine Body.jb Tryz.func124 rfl GK (by simp[Tryz.ntmps124]) λ C hC OR=>?_;rw[Tryz.ntmps124] at hC;apply aq;simp[hC]
 cases ar with
 | false=>
  apply aT;simp[hC,bO];refine cX ?_;simp;apply aq;simp[hC];refine TL.di ag [0,3] 4 (uY L hL vars hv 0 i yA hi) OU rfl rfl rfl rfl xr Qe Qd rfl (TL.go' ag ?_);simp[bA];apply T.ret;refine aa.le (Le.trim [4] [0,1,3,4] 5 Yk yA) ?_;simp;refine aa.le (Le.nz [] [4]) ?_;simp;refine aa.le (Le.cF (o:=4) rfl Uu) ?_;simp;refine aa.trim [4] [0,1,3] 4 S9 yA ⟨_,?_,rfl,?_,rfl⟩
  ·simp[dH,qt,bA]
  ·simp[dH]
 | true=>
  apply aT;simp[hC,bO];refine eQ ?_;simp;have OT:=dF L i (show 0<2 by omega);have w1:=cw (1+((cA L i 2).1:Int)) yA yA;apply T.seq;refine T.rx ag follows [0,1,2,3,4,5,6,7,8,9,10,11,12] [(3,9)] GK ?_;simp[hC];refine RX.di [0] [0] 1 (cT L i 2 hi hL yA yA) rfl xr rfl rfl rfl rfl xr Qe Qd rfl rfl rfl xr ?_;simp[w1];refine RX.di [0,3] [0] 4 (uY L hL vars hv (1+(cA L i 2).1) _ yA (bu _ _ hi)) rfl xr rfl rfl rfl rfl xr Qe Qd rfl rfl rfl xr ?_;simp[bA];apply T.ret;refine aa.le (Le.trim [4] [0,1,3,4] 18 Yk yA) ?_;simp;refine aa.le (Le.nz [] [4]) ?_;simp;refine aa.le (Le.cF (o:=4) rfl Uu) ?_;simp;refine aa.trim [4] [0,1,3] 4 S9 yA ⟨_,?_,rfl,?_,rfl⟩
  ·simp[dH,qt,bA]
  ·simp[dH]
theorem Ez (L:List Int)(hL:L.length<=1000)(vars:List ByteArray)(hv:vars.length<=1000)(gs:List Gl)(ms:List Mx)(nf left size:Nat)(hs:0<size)(WZ:size<=1000)(ar:Bool)(i:Nat)(hi:i<=L.length) :
  Body prog av 158 [.ax 1 0,.bg 3 0 vars.length,I size] [(0,aI L i),(1,bO gs ms nf left ar),(3,bw vars)] 4 (jk (.agg (a8 (pt L ar vars size i).1)) [(0,aI L (pt L ar vars size i).2),(1,bO gs ms nf left ar),(3,bw vars)] 4):=by
 refine Body.jb Tryz.func158 rfl GK (by simp[Tryz.ntmps158]) λ C hC OR=>?_;rw[Tryz.ntmps158] at hC;apply aq;simp[hC];have Ts:=bu L 3 hi
 cases ar with
 | false=>
  apply aT;simp[hC,bO];refine eQ ?_;simp;apply aq;simp[hC];refine TL.di ag [0] 1 (cT L i size hi hL hs yA) OU rfl rfl rfl rfl xr Qe Qd rfl (TL.go' ag ?_);simp[hC];apply T.ret;refine aa.le (Le.trim [6] [0,1,3,4] 5 Z5 yA) ?_;simp;refine aa.le (Le.nz [] [4]) ?_;simp;refine aa.le (Le.cF (o:=4) rfl Uu) ?_;simp;refine aa.trim [6] [0,1,3] 4 S9 yA ⟨_,?_,rfl,?_,rfl⟩
  ·simp[pt,a8,eS]
  ·simp[pt]
 | true=>
  apply aT;simp[hC,bO];refine TL.di ag [0] 1 (cT L i 3 hi hL yA yA) OU rfl rfl rfl rfl xr Qe Qd rfl (TL.go' ag ?_);simp[hC];refine T.bB rfl (λ h=>?_) (λ h=>?_)
  ·have h1:(cA L i 3).1=1:=by simpa using h
   apply aq;simp[hC];refine TL.di ag [0,3] 4 (uY L hL vars hv 1 _ yA Ts) OU rfl rfl rfl rfl xr Qe Qd rfl (TL.go' ag ?_);simp[bA];apply T.ret;refine aa.le (Le.trim [6] [0,1,3,4] 5 Yk yA) ?_;simp;refine aa.le (Le.nz [] [4]) ?_;simp;refine aa.le (Le.cF (o:=4) rfl Uu) ?_;simp;refine aa.trim [6] [0,1,3] 4 S9 yA ⟨_,?_,rfl,?_,rfl⟩
   ·simp[pt,h1,qt,bA]
   ·simp[pt,h1]
  ·have h1:¬ (cA L i 3).1=1:=by simpa using h
   apply T.skip;simp;apply aq;simp[hC];refine TL.di ag [0] 1 (cT L _ size Ts hL hs yA) OU rfl rfl rfl rfl xr Qe Qd rfl (TL.go' ag ?_);simp[hC];apply T.ret;refine aa.le (Le.trim [6] [0,1,3,4] 5 Z5 yA) ?_;simp;refine aa.le (Le.nz [] [4]) ?_;simp;refine aa.le (Le.cF (o:=4) rfl Uu) ?_;simp;refine aa.trim [6] [0,1,3] 4 S9 yA ⟨_,?_,rfl,?_,rfl⟩
   ·simp[pt,a8,eS,h1]
   ·simp[pt,h1]
def lg:List CV:=[.str ⟨#[]⟩,.ak]
def gK (nm:ByteArray)(ps:List Pm)(bc:List CV)(bn:Nat):List CV:=[.str nm,.au (ps.flatMap ln) ps.length,.au bc bn]
section
variable (L:List Int)(vars:List ByteArray)(gs:List Gl)(ms:List Mx)(nf left:Nat)(ar:Bool)(i:Nat)(nm:ByteArray)(ps:List Pm)(bc:List CV)(bn:Nat)
def J86 (m:Nat)(s:St):Prop:=∃ k:Nat,m=ms.length-k/\k<=ms.length/\
 s=⟨[(8,I k),(7,.bg 6 0 k),(6,.ax 5 0),(4,.ax 4 0),(0,.ax 1 0),(2,.bg 3 0 vars.length)],[(0,aI L i),(1,bO gs ms nf left ar),(3,bw vars),(4,⟨136,0,gK nm ps bc bn⟩),(5,⟨204,0,lg⟩),(6,bw ((ms.take k).map (·.name)))],7⟩
def K86 (m:Nat)(s:St):Prop:=∃ k:Nat,m=ps.length-k/\k<=ps.length/\
 s=⟨[(10,I k),(9,I ms.length),(7,.bg 6 0 (cj ms (ps.take k)).length),(6,.ax 5 0),(4,.ax 4 0),(0,.ax 1 0),(2,.bg 3 0 vars.length)],[(0,aI L i),(1,bO gs ms nf left ar),(3,bw vars),(4,⟨136,0,gK nm ps bc bn⟩),(5,⟨204,0,lg⟩),(6,bw (cj ms (ps.take k)))],7⟩
end
theorem uu (L:List Int)(hL:L.length<=1000)(vars:List ByteArray)(hv:vars.length<=1000)(gs:List Gl)(ms:List Mx)(hm:0<ms.length)(Tc:ms.length<=100)(O0:∀ m∈ms,m.size<=1000)(nf left:Nat)(ar:Bool)(i:Nat)(hi:i<=L.length)
  (nm:ByteArray) (ps:List Pm) (hp:ps.length<=100) (bc:List CV) (bn:Nat) :
  Body prog av 123 [.ax 1 0,.agg (gK nm ps bc bn),.bg 3 0 vars.length] [(0,aI L i),(1,bO gs ms nf left ar),(3,bw vars)] 4 (jk (.agg (ld (jB L ar ms ps vars i).1)) [(0,aI L (jB L ar ms ps vars i).2),(1,bO gs ms nf left ar),(3,bw vars)] 4):=by
 generalize P2:jB L ar ms ps vars i=res;refine Body.jb Tryz.func123 rfl GK (by simp[Tryz.ntmps123]) λ C hC OR=>?_;rw[Tryz.ntmps123] at hC;apply aq;simp[hC,gK];apply aq;simp[hC];apply aT;simp[hC];apply T.block;refine T.aQ (J86 L vars gs ms nf left ar i nm ps bc bn) (n:=ms.length) ?_ ?_
 ·refine aa.le (Le.own 7 9 1 rfl) (aa.trim [8,7,6,4,0,2] [0,1,3,4,5,6] 7 (by simp[aI,bO]) yA ⟨0,rfl,Nat.zero_le _,?_⟩);simp[bw,lg,gK]
 ·rintro n s ⟨k,rfl,hk,rfl⟩;have WC:((ms.take k).map (·.name)).length=k:=by simp;omega
  generalize hN:(ms.take k).map (·.name)=N at WC;apply aT;simp[hC,bO];refine T.bB rfl (λ h=>?_) (λ h=>?_)
  ·have Pa:k<ms.length:=by simpa using h
   obtain⟨m,Xa⟩:∃ m,ms[k]? = some m:=⟨ms[k],getElem?_eq_getElem Pa⟩;have hd:=aH (f:=cI) (n:=3) (λ _=>rfl) Xa;have wi:=cw ((k:Int)+1) yA yA;have hb:(k+1)*16<=140737488355328:=by omega
   have Pb:ms.take (k+1)=ms.take k++[m]:=by rw[take_add_one,Xa];rfl
   have hN':(ms.take (k+1)).map (·.name)=N++[m.name]:=by rw[Pb,map_append,hN];rfl
   apply T.skip;simp;refine T.seq (T.block (T.go' ag ?_));simp[hC,Pa,hd,cI,bw,hb,WC];apply aG;simp[hC,wi];refine⟨ms.length-(k+1),by omega,aa.le (Le.trim [8,7,6,4,0,2] [0,1,3,4,5,8] 9 (by simp[aI,gK,lg]) yA) ?_⟩;simp;refine aa.le (Le.ph 8 6 rfl rfl yA xr (by simp ) (by simp[aI,ints,gK,lg])) ?_;simp[aI,ints,gK,lg];refine aa.trim [8,7,6,4,0,2] [0,1,3,4,5,6] 7 xr yA ⟨k+1,rfl,Pa,?_⟩;simp only[hN'];simp[bw,lg,gK,bO,aI,ints]
  ·have Pa:k=ms.length:=by
    have:¬ k<ms.length:=by simpa using h
    omega
   subst Pa;rw[take_length] at hN;apply T.exit;simp;refine T.le (Le.trim [7,6,4,0,2] [0,1,3,4,5,6] 7 (by simp[aI,gK,lg,bw]) yA) ?_;simp;apply aq;simp[hC,bw];apply aT;simp[hC];apply T.block;refine T.aQ (K86 L vars gs ms nf left ar i nm ps bc bn) (n:=ps.length) ?_ ?_
   ·refine aa.trim [10,9,7,6,4,0,2] [0,1,3,4,5,6] 7 (by simp[aI,gK,lg]) yA ⟨0,rfl,Nat.zero_le _,?_⟩;simp[bw,lg,gK,cj,<- hN,bO]
   ·rintro n s ⟨j,rfl,hj,rfl⟩;have hNl2:(cj ms (ps.take j)).length<=300:=by
     have:∀ l:List Pm,(l.flatMap F8).length<=l.length*2:=by
      intro l
      induction l with
      | nil=>simp
      | cons a r ih=>
       simp only[flatMap_cons,length_append,length_cons];have:(F8 a).length<=2:=by unfold F8;split<;>simp
       omega
     have h1:=this (ps.take j);simp only[cj,length_append,length_map];simp only[length_take] at h1;omega
    generalize hN2:cj ms (ps.take j)=N2 at hNl2;apply aT;simp[hC,gK];refine T.bB rfl (λ h=>?_) (λ h=>?_)
    ·have QL:j<ps.length:=by simpa using h
     obtain⟨p,hpj⟩:∃ p,ps[j]? = some p:=⟨ps[j],getElem?_eq_getElem QL⟩;have hd:=aH (f:=ln) (n:=2) (λ _=>rfl) hpj;have Qa:=cq (f:=ln) (n:=2) (λ _=>rfl) hpj 1 yA;have wi:=cw ((j:Int)+1) yA yA;have Pb:ps.take (j+1)=ps.take j++[p]:=by rw[take_add_one,hpj];rfl
     have Yg:cj ms (ps.take (j+1))=N2++F8 p:=by rw[Pb,<- hN2];simp[cj]
     apply T.skip;simp;refine T.seq (T.block (aq ?_));simp[hC,QL,Qa,ln];refine T.cond (b:=p.mutex) rfl ?_
     cases VP:p.mutex with
     | true=>
      have QV:F8 p=[p.name,p.name]:=by simp[F8,VP]
      have hb:(N2.length+2)*16<=140737488355328:=by omega
      simp;refine T.rx ag follows [0,1,2,3,4,5,6,7,8,9,10,11,12,13,14,15] [] GK ?_;simp[hC,QL,hd,ln,bw,hb];apply aG;simp[hC,wi];refine⟨ps.length-(j+1),by omega,aa.le (Le.trim [10,9,7,6,4,0,2] [0,1,3,4,5,23] 24 (by simp[aI,lg,bO]) yA) ?_⟩;simp;refine aa.le (Le.ph 23 6 rfl rfl yA xr (by simp ) (by simp[aI,ints,lg,bO])) ?_;simp[aI,ints,lg,bO];refine aa.trim [10,9,7,6,4,0,2] [0,1,3,4,5,6] 7 xr yA ⟨j+1,rfl,QL,?_⟩;simp only[Yg,QV];simp[bw,lg,gK,bO,aI,ints]
     | false=>
      have QV:F8 p=[]:=by simp[F8,VP]
      simp;apply T.skip;simp;apply aG;simp[hC,wi];refine⟨ps.length-(j+1),by omega,aa.trim [10,9,7,6,4,0,2] [0,1,3,4,5,6] 7 (by simp[aI,lg,bO,bw]) yA ⟨j+1,rfl,QL,?_⟩⟩;simp only[Yg,QV];simp[bw,lg,gK,bO,aI,ints]
    ·have QL:j=ps.length:=by
      have:¬ j<ps.length:=by simpa using h
      omega
     subst QL;rw[take_length] at hN2;apply T.exit;simp;refine T.le (Le.trim [9,7,6,4,0,2] [0,1,3,4,5,6] 7 (by simp[aI,lg,bw,bO]) yA) ?_;simp;have Z3:0<N2.length:=by rw[<- hN2];simp[cj];omega
     apply aq;simp[hC,bO];refine TL.di ag [0] 1 (cT L i N2.length hi hL Z3 yA) OU rfl rfl rfl rfl xr Qe Qd rfl (TL.go' ag ?_);simp[hC];have PH:=bu L N2.length hi;have OT:=dF L i Z3;have Ro:res=if (cA L i N2.length).1<ms.length/\0<lb ms (cA L i N2.length).1 then
       (⟨N2.getD (cA L i N2.length).1 eS,some (pt L ar vars (lb ms (cA L i N2.length).1) (cA L i N2.length).2).1⟩,(pt L ar vars (lb ms (cA L i N2.length).1) (cA L i N2.length).2).2)
       else (⟨N2.getD (cA L i N2.length).1 eS,none⟩,(cA L i N2.length).2):=by rw[<- hN2,<- P2];rfl
     generalize cA L i N2.length=k at PH OT Ro;have OS:=jq OT;apply aq;simp[hC,bw,OT,OS];have Sj:N2.getD k.1 eS=N2[k.1]:=by simp[getD,OT]
     rw[Sj] at Ro;refine T.le (Le.trim [12,11,9,6,0,2] [0,1,3,5,7] 8 (by simp[aI,lg]) yA) ?_;simp;refine T.seq (T.seq ?_);by_cases VW:k.1<ms.length
     ·obtain⟨m,Xa⟩:∃ m,ms[k.1]? = some m:=⟨ms[k.1],getElem?_eq_getElem VW⟩;have hd:=cq (f:=cI) (n:=3) (λ _=>rfl) Xa 2 yA;have hsa:lb ms k.1=m.size:=by simp[lb,Xa]
      have Qm:=O0 m (mem_of_getElem? Xa);have TT:=cq (f:=cI) (n:=3) (λ _=>rfl) Xa 0 yA;rw[hsa] at Ro;apply aG;simp[hC,VW,hd,cI];refine T.bB rfl (λ h=>?_) (λ h=>?_)
      ·have Se:0<m.size:=by simpa using h
       rw[if_pos ⟨VW,Se⟩] at Ro;apply aG;simp[hC,VW,hd,cI];refine TL.di ag [0,1,3] 4 (Ez L hL vars hv gs ms nf left m.size Se Qm ar k.2 PH) OU rfl rfl rfl rfl xr rfl (by first | rfl | simp[aI,ints,bO]) rfl (TL.go' ag ?_);simp[hC,bA,aS];apply aq;simp[hC,lg];apply T.ret;refine aa.le (Le.trim [6] [0,1,3,5,8] 9 (by simp[aI,bO,-all_eq_true,gG]) yA) ?_;simp;refine aa.le (Le.cF (o:=8) rfl (aJ _)) ?_;simp;refine aa.le (Le.cF (o:=5) rfl rfl) ?_;simp;refine aa.trim [6] [0,1,3] 4 (by simp[aI,bO]) yA ⟨_,?_,rfl,?_,rfl⟩
       ·simp[Ro,ld,mA]
       ·simp[Ro,bO,bw]
      ·have Se:¬ 0<m.size:=by simpa using h
       rw[if_neg λ h=>Se h.2] at Ro;apply T.skip;simp;apply aq;simp[hC,lg];apply T.ret;refine aa.le (Le.trim [6] [0,1,3,5] 8 Z5 yA) ?_;simp;refine aa.le (Le.nz [] [5]) ?_;simp;refine aa.le (Le.cF (o:=5) rfl Uu) ?_;simp;refine aa.trim [6] [0,1,3] 4 S9 yA ⟨_,?_,rfl,?_,rfl⟩
       ·simp[Ro,ld,mA]
       ·simp[Ro]
     ·rw[if_neg λ h=>VW h.1] at Ro;apply aG;simp[hC,VW];refine eQ ?_;simp;apply aq;simp[hC,lg];apply T.ret;refine aa.le (Le.trim [6] [0,1,3,5] 8 Z5 yA) ?_;simp;refine aa.le (Le.nz [] [5]) ?_;simp;refine aa.le (Le.cF (o:=5) rfl Uu) ?_;simp;refine aa.trim [6] [0,1,3] 4 S9 yA ⟨_,?_,rfl,?_,rfl⟩
      ·simp[Ro,ld,mA]
      ·simp[Ro]
theorem uL (x:Ar):(pw x).length=7:=by cases x<;>simp[pw,ld,lh,bA]
theorem qf (L:List Int)(ar:Bool)(ms:List Mx)(ps:List Pm)(vars:List ByteArray)(p:Pm):∀ (l:List Pm) (i:Nat),dB L ar ms ps vars (l++[p]) i=((dB L ar ms ps vars l i).1++(dB L ar ms ps vars [p] (dB L ar ms ps vars l i).2).1,(dB L ar ms ps vars [p] (dB L ar ms ps vars l i).2).2)
 | [],i=>by simp[dB]
 | q::r,i=>by
  rw[cons_append,dB,dB];split
  ·rw[qf L ar ms ps vars p r];simp
  ·rw[qf L ar ms ps vars p r];simp
theorem sI (L:List Int)(ar:Bool)(ms:List Mx)(ps:List Pm)(vars:List ByteArray):∀ (l:List Pm) (i:Nat),(dB L ar ms ps vars l i).1.length=l.length
 | [],i=>rfl
 | q::r,i=>by
  rw[dB];split<;>simp[sI L ar ms ps vars r]
@[simp] theorem MH (l:List Ar):(l.flatMap pw).map nz=l.flatMap pw:=by
 induction l with
 | nil=>rfl
 | cons a r ih=>
  rw[flatMap_cons,map_append,ih];congr 1;rcases a with ⟨_,_ | _⟩ | e<;>simp[pw,ld,lh,mA,a8]
@[simp] theorem nz_opC (e:Option Ex):nz (mA e)=mA e:=by cases e<;>rfl
@[simp] theorem tree_opC (e:Option Ex):tree (mA e)=true:=by cases e<;>rfl
@[simp] theorem Mq (n:Nat)(e:Option Ex):aU n (mA e)=true:=by cases e<;>rfl
@[simp] theorem Og (n:Nat)(e:Option Ex):aP n (mA e)=true:=by cases e<;>rfl
@[simp] theorem ok1_opC (o q:Nat)(e:Option Ex):nC o q (mA e)=true:=by cases e<;>rfl
@[simp] theorem ren1_opC (o q:Nat)(e:Option Ex):dE o q (mA e)=mA e:=by cases e<;>rfl
@[simp] theorem frzV_opC (o:Nat)(cs:List CV)(n:Nat)(e:Option Ex):cK o cs n (mA e)=mA e:=by cases e<;>rfl
theorem y3 (o q:Nat)(e:Ex):(a8 e).all (nC o q)=true:=bC (aJ e) o q
@[simp] theorem ren1_exC (o q:Nat)(e:Ex):(a8 e).map (dE o q)=a8 e:=bm (aJ e) o q
theorem EF (l:List Ar):trees (l.flatMap pw)=true:=by
 induction l with
 | nil=>rfl
 | cons a r ih=>
  rw[flatMap_cons,aF,ih,Bool.and_true];rcases a with ⟨_,_ | _⟩ | e<;>simp only[pw,ld,lh,mA,cons_append,nil_append,trees,tree,aJ,Bool.and_self]
section
variable (L:List Int)(vars:List ByteArray)(gs:List Gl)(ms:List Mx)(nf left:Nat)(ar:Bool)(i:Nat)(nm:ByteArray)(ps:List Pm)(bc:List CV)(bn:Nat)(nm':ByteArray)(QI:List Pm)(bc':List CV)(bn':Nat)
def J88 (m:Nat)(s:St):Prop:=∃ k:Nat,m=QI.length-k/\k<=QI.length/\
 s=⟨[(10,I k),(9,.bg 6 0 k),(6,.ax 5 0),(5,.ax 4 0),(0,.ax 1 0),(3,.bg 3 0 vars.length)],[(0,aI L (dB L ar ms ps vars (QI.take k) i).2),(1,bO gs ms nf left ar),(3,bw vars),(4,⟨136,0,gK nm ps bc bn⟩),(5,⟨136,0,gK nm' QI bc' bn'⟩),(6,⟨243,7,(dB L ar ms ps vars (QI.take k) i).1.flatMap pw⟩)],7⟩
end
theorem Gp (L:List Int)(hL:L.length<=1000)(vars:List ByteArray)(hv:vars.length<=1000)(gs:List Gl)(ms:List Mx)(hm:0<ms.length)(Tc:ms.length<=100)(O0:∀ m∈ms,m.size<=1000)(nf left:Nat)(ar:Bool)(i:Nat)(hi:i<=L.length)
  (nm:ByteArray) (ps:List Pm) (hp:ps.length<=100) (bc:List CV) (bn:Nat) (nm':ByteArray) (QI:List Pm) (SR:QI.length<=100) (bc':List CV) (bn':Nat) :
  Body prog av 125 [.ax 1 0,.agg (gK nm ps bc bn),.agg (gK nm' QI bc' bn'),.bg 3 0 vars.length] [(0,aI L i),(1,bO gs ms nf left ar),(3,bw vars)] 4
   (jk (.au ((dB L ar ms ps vars QI i).1.flatMap pw) QI.length) [(0,aI L (dB L ar ms ps vars QI i).2),(1,bO gs ms nf left ar),(3,bw vars)] 4):=by
 refine Body.jb Tryz.func125 rfl GK (by simp[Tryz.ntmps125]) λ C hC OR=>?_;rw[Tryz.ntmps125] at hC;apply aq;simp[hC,gK];apply aq;simp[hC];apply aT;simp[hC];apply T.block;refine T.aQ (J88 L vars gs ms nf left ar i nm ps bc bn nm' QI bc' bn') (n:=QI.length) ?_ ?_
 ·refine aa.le (Le.own 9 243 7 rfl) (aa.trim [10,9,6,5,0,3] [0,1,3,4,5,6] 7 (by simp[aI,bO]) yA ⟨0,rfl,Nat.zero_le _,?_⟩);simp[dB,gK]
 ·rintro n s ⟨k,rfl,hk,rfl⟩;have hAl:(dB L ar ms ps vars (QI.take k) i).1.length=k:=by rw[sI];simp;omega
  have PH:(dB L ar ms ps vars (QI.take k) i).2<=L.length:=rq _ _ _ _ _ _ hi;have PS:=aA (f:=pw) (n:=7) uL (dB L ar ms ps vars (QI.take k) i).1;rw[hAl] at PS;have Pk:=EF (dB L ar ms ps vars (QI.take k) i).1;generalize hA:dB L ar ms ps vars (QI.take k) i=A at hAl PH PS Pk;have W8:=MH A.1;generalize hX:A.1.flatMap pw=X at PS Pk W8;have hl8:=aj Pk 9;have O8:=bC Pk 8 6;have Ta:=bm Pk 8 6;have hl6:=aj Pk 7;apply aT;simp[hC,gK];refine T.bB rfl (λ h=>?_) (λ h=>?_)
  ·have Pa:k<QI.length:=by simpa using h
   obtain⟨p,T5⟩:∃ p,QI[k]? = some p:=⟨QI[k],getElem?_eq_getElem Pa⟩;have Qa:=cq (f:=ln) (n:=2) (λ _=>rfl) T5 1 yA;have wi:=cw ((k:Int)+1) yA yA;have Pb:QI.take (k+1)=QI.take k++[p]:=by rw[take_add_one,T5];rfl
   have hA1:dB L ar ms ps vars (QI.take (k+1)) i=(A.1++(dB L ar ms ps vars [p] A.2).1,(dB L ar ms ps vars [p] A.2).2):=by rw[Pb,qf,hA]
   have hb:(k+1)*104<=140737488355328:=by omega
   apply T.skip;simp;refine T.seq (T.block (aq ?_));simp[hC,Pa,Qa,ln];refine T.cond (b:=p.mutex) rfl ?_
   cases VP:p.mutex with
   | true=>
    have Ro:dB L ar ms ps vars [p] A.2=([.vw (jB L ar ms ps vars A.2).1],(jB L ar ms ps vars A.2).2):=by simp[dB,VP]
    rw[Ro] at hA1;simp;apply aG;simp[hC];refine TL.di ag [0,1,3] 4 (uu L hL vars hv gs ms hm Tc O0 nf left ar A.2 PH nm ps hp bc bn) OU rfl rfl rfl rfl xr rfl (by first | rfl | simp[aI,ints,bO]) rfl (TL.go' ag ?_);simp[hC,ld,aS,PS,hb];apply aG;simp[hC,wi];refine⟨QI.length-(k+1),by omega,aa.le (Le.trim [10,9,6,5,0,3] [0,1,3,4,5,8] 9 (by simp[aI,bO,-all_eq_true,hl8]) yA) ?_⟩;simp;refine aa.le (Le.nz [] [8]) ?_;simp[W8];refine aa.le (Le.ph 8 6 rfl rfl yA xr (by simp ) (by simp[aI,ints,bO,-all_eq_true,O8])) ?_;simp[aI,ints,bO,Ta];refine aa.trim [10,9,6,5,0,3] [0,1,3,4,5,6] 7 (by simp[-all_eq_true,hl6]) yA ⟨k+1,rfl,Pa,?_⟩;simp only[hA1];simp[gK,bO,aI,ints,pw,ld,a8,eS,hX]
   | false=>
    have Ro:dB L ar ms ps vars [p] A.2=([.exp (dH L ar vars A.2).1],(dH L ar vars A.2).2):=by simp[dB,VP]
    rw[Ro] at hA1;simp;apply aG;simp[hC];refine TL.di ag [0,1,3] 4 (nO L hL vars hv gs ms nf left ar A.2 PH) OU rfl rfl rfl rfl xr rfl (by first | rfl | simp[aI,ints,bO]) rfl (TL.go' ag ?_);simp[hC,bA,aS,PS,hb];apply aG;simp[hC,wi];refine⟨QI.length-(k+1),by omega,aa.le (Le.trim [10,9,6,5,0,3] [0,1,3,4,5,8] 9 (by simp[aI,bO,-all_eq_true,hl8,gG]) yA) ?_⟩;simp;refine aa.le (Le.nz [] [8]) ?_;simp[W8];refine aa.le (Le.ph 8 6 rfl rfl yA xr (by simp ) (by simp[aI,ints,bO,-all_eq_true,O8,y3])) ?_;simp[aI,ints,bO,Ta];refine aa.trim [10,9,6,5,0,3] [0,1,3,4,5,6] 7 (by simp[-all_eq_true,hl6,gG]) yA ⟨k+1,rfl,Pa,?_⟩;simp only[hA1];simp[gK,bO,aI,ints,pw,lh,eS,hX]
  ·have Pa:k=QI.length:=by
    have:¬ k<QI.length:=by simpa using h
    omega
   subst Pa;rw[take_length] at hA;rw[hA];apply T.exit;simp;apply aq;simp[hC];apply T.ret;refine aa.le (Le.trim [8] [0,1,3,6] 7 (by simp[aI,bO,-all_eq_true,hl6]) yA) ?_;simp;refine aa.le (Le.cF (o:=6) rfl Pk) ?_;have YL:X.take (QI.length*7)=X:=take_of_length_le yA;simp[YL];refine aa.trim [8] [0,1,3] 4 (by simp[aI,bO]) yA ⟨_,?_,rfl,?_,rfl⟩
   ·simp[hX]
   ·simp[bO]
end Go.Proofs.YtlkmbdfhdknlgaaGreat
