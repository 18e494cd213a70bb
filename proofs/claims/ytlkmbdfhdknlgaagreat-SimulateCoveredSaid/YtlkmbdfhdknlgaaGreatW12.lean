/- Lemmas. -/
import Derived.Test.YtlkmbdfhdknlgaaGreatW11
set_option maxRecDepth 100000
namespace Go.Can
open Go.RowKit List
structure IP where
 av:List (Nat×TI)
 mt:jh
 al:FuncId->Bool
 pu:FuncId->Bool
 orc:FuncId->Nat->Option (List (Nat×Nat))
 Ii:List (FuncId×List CV×CV)
 mi:List MI:=[]
 ei:List EI:=[]
def knl:List (FuncId×List CV×CV)->FuncId->List CV->Option CV
 | [],_,_=>none
 | (h,ds,r)::l,g,cs=>if (h == g && uV ds cs)=true then some r else knl l g cs
abbrev qk:=FuncId->List CV->Option CV
def ES (I:IP)(n0 nt:Nat)(ops:Array Oper)(call:gD)(pcall:qk)(o:Oper)(s:St):Option St:=
 match cz o with
 | none=>match gV I.av nt ops s o with
  | some s'=>some s'
  | none=>match ca ops s o with
   | some true=>if bj nt o.dst=true then match FN n0 I.av s o with
     | some s'=>some s'
     | none=>match Kz I.mi n0 s o with
      | some s'=>some s'
      | none=>match Dj I.ei s o with
       | some s'=>some s'
       | none=>L1 I.av s o
    else none
   | _=>none
 | some c=>match ca ops s o with
  | some true=>if bj nt o.dst=true then match jF I.mt s c with
    | some (g,cs)=>match (if trees cs then pcall g cs else none) with
     | some r=>some (s.put o.dst r)
     | none=>match call g cs s.heap s.nx with
      | some (x,H,n)=>some (St.put ⟨s.env,H,n⟩ o.dst x)
      | none=>none
    | none=>none
   else none
  | _=>gV I.av nt ops s o
def CS (I:IP)(n0 nt:Nat)(ops:Array Oper)(call:gD)(pcall:qk):List Oper->St->Option St
 | [],s=>some s
 | o::r,s=>match ES I n0 nt ops call pcall o s with
  | some s'=>CS I n0 nt ops call pcall r s'
  | none=>none
def drX (I:IP)(call:gD)(pcall:qk)(g:FuncId)(_n0 nt:Nat)(id:Nat)(ops:Array Oper)(s:St):Option St:=match I.orc g id with
 | none=>none
 | some dyn=>OI I.av I.mt nt ops call pcall (range ops.size) dyn s
def QO (I:IP)(g:FuncId)(id:Nat)(ops:Array Oper)(d:Bool):Bool:=!d || match I.orc g id with
 | some dyn=>wU ops false (range ops.size) dyn
 | none=>true
def JV (I:IP)(call:gD)(pcall:qk)(g:FuncId)(n0 nt:Nat)(id:Nat)(ops:Array Oper)(d:Bool)(s:St):Option St:=
 if d then drX I call pcall g n0 nt id ops s else CS I n0 nt ops call pcall ops.toList s
def yj (I:IP)(go:FuncId->List CV->List (Nat×Ob)->Nat->Option (Func×St)):gD:=λ g cs H n=>match go g cs H n with
 | some (fn,s)=>match bJ I.av fn s with
  | some r=>some (r,s.heap,s.nx)
  | none=>none
 | none=>none
def qS (I:IP)(go:FuncId->List CV->List (Nat×Ob)->Nat->Option (Func×St)):qk:=λ g cs=>match knl I.Ii g cs with
 | some r=>some r
 | none=>if I.pu g then match go g cs [] 0 with
  | some (fn,s)=>match bJ I.av fn s with
   | some r=>deep s.heap 60 r
   | none=>none
  | none=>none
  else none
def aM (P:Program)(I:IP):Nat->FuncId->List CV->List (Nat×Ob)->Nat->Option (Func×St)
 | 0,_,_,_,_=>none
 | f+1,g,cs,H,n=>match P.funcs[g]? with
  | none=>none
  | some fn=>match fn.body with
   | none=>none
   | some c => if (fn.name == "runtime.NumGoroutine") = false /\ cs.length <= fn.ntmps /\ I.al g = true then
     match oP (JV I (yj I (aM P I f)) (qS I (aM P I f)) g n fn.ntmps) f c ⟨(enter cs).env,H,n⟩ with
     | some (.normal,s')=>some (fn,s')
     | some (.ret,s')=>some (fn,s')
     | _=>none
    else none
section
variable {P:Program}{C:Cx}{s:St}{I:IP}{ops:Array Oper}{call:gD}{pcall:qk}
structure PE (P:Program)(I:IP):Prop where
 kn:∀ x∈I.Ii,ae P x.1 x.2.1 x.2.2
 av:aF P I.av
 mt:jM P I.mt
 mi:Rm P I.mi
 ei:Mh P I.ei
 md:P.follows .mixedOrders=true
 gd:∀ g fn c,I.al g=true->P.funcs[g]? = some fn->fn.body=some c->iB (QO I g) c=true
theorem H0 (hI:PE P I)(hc:g7 P I.av call)(hp:yZ P pcall){o:Oper}{l:List Oper}{s':St}{K:St->Prop}(h:ES I C.n0 C.nt ops call pcall o s=some s')(hk:TL P C ops l s' K):TL P C ops (o::l) s K:=by
 unfold ES at h;split at h
 .split at h
  .rename_i s1 h1;cases h;exact TL.step hI.av h1 hk
  .split at h
   .rename_i hg;split at h
    .rename_i hd;split at h
     .rename_i s1 h1;cases h;exact gW hg (BM hI.av hd h1) hk
     .split at h
      .rename_i s1 h1;cases h;exact gW hg (Ky hI.mi hd h1) hk
      .split at h
       .rename_i s1 h1;cases h;exact gW hg (x5 hI.ei hd h1) hk
       .exact gW hg (LZ hI.av hd h) hk
    .cases h
   .cases h
 .rename_i c hu;have SG:=iy hu;split at h
  .rename_i hg;split at h
   .rename_i hd;split at h
    .rename_i g cs SP;split at h
     .rename_i r hr;cases h;split at hr
      .rename_i ht;have hP:=hp g cs r hr;exact OU hd hg (ql.to hI.mt SG SP hP.1) ht hP hk
      .cases hr
     .split at h
      .rename_i x H n hx;cases h;have hB:=hc _ _ _ _ _ _ _ hx;have hE:ka P g:=by
        obtain⟨fn,c,h1,h2,h3,_⟩:=hB;exact⟨fn,h1,h3,by simp[h2]⟩
       refine callE hI.av hd hg (ql.to hI.mt SG SP hE) hB ?_;rintro r s1 ⟨rfl,rfl,rfl⟩;exact hk
      .cases h
    .cases h
   .cases h
  .exact TL.step hI.av h hk
theorem CR (hI:PE P I)(hc:g7 P I.av call)(hp:yZ P pcall):∀ (l:List Oper) (s s':St),CS I C.n0 C.nt ops call pcall l s=some s'->TL P C ops l s λ x=>x=s'
 | [],s,s',h=>by
  simp only[CS] at h;cases h;exact TL.nil rfl
 | o::r,s,s',h=>by
  simp only[CS] at h;split at h
  .rename_i s1 h1;exact H0 hI hc hp h1 (CR hI hc hp r s1 s' h)
  .cases h
theorem QS (hI:PE P I)(hc:g7 P I.av call)(hp:yZ P pcall)(g:FuncId)(id:Nat)(ops:Array Oper)(s s':St)(hg:QO I g id ops true=true)(h:drX I call pcall g C.n0 C.nt id ops s=some s'):T P C (.region id ops true) s λ e x=>e=.normal/\x=s':=by
 unfold drX at h;unfold QO at hg;split at h
 .cases h
 .rename_i dyn ho;rw[ho] at hg;exact T.trace hI.av hI.mt hc hp hI.md (by simpa using hg) h
theorem M6 (hI:PE P I)(hc:g7 P I.av call)(hp:yZ P pcall)(g:FuncId):Mb P C (QO I g) (JV I call pcall g C.n0 C.nt):=by
 intro id ops d s s' hg h;unfold JV at h
 cases d with
 | true=>exact QS hI hc hp g id ops s s' hg UA
 | false=>
  have hl:=CR (ops:=ops.toList.toArray) hI hc hp ops.toList s s' UA
  simpa using TL.again (id:=id) hl
def Rn (P : Program) (go : FuncId -> List CV -> List (Nat × Ob) -> Nat -> Option (Func × St)) : Prop := ∀ g cs H n fn s', go g cs H n = some (fn, s') -> ∃ c, P.funcs[g]? = some fn /\ fn.body = some c /\ (fn.name == "runtime.NumGoroutine") = false /\ cs.length <= fn.ntmps /\
 ∀ C:Cx,C.nt=fn.ntmps->C.n0=n->T P C c ⟨(enter cs).env,H,n⟩ λ e x=>(e=.normal\/e=.ret)/\x=s'
theorem IH {go:FuncId->List CV->List (Nat×Ob)->Nat->Option (Func×St)}(h:Rn P go):g7 P I.av (yj I go):=by
 intro g cs H n x H' n' hx;unfold yj at hx;split at hx
 .rename_i fn s' hg;split at hx
  .rename_i r hr;cases hx;obtain⟨c,h1,h2,h3,h4,h5⟩:=h _ _ _ _ _ _ hg;refine Body.iZ h1 h2 h3 h4 λ C hC M0=>T.mono (h5 C hC M0) ?_;rintro e x ⟨rfl | rfl,rfl⟩<;>exact aa.here ⟨_,hr,rfl,rfl,rfl⟩
  .cases hx
 .cases hx
theorem GF:∀ (l:List (FuncId×List CV×CV)) (g:FuncId) (cs:List CV) (r:CV),knl l g cs=some r->(g,cs,r)∈l
 | [],_,_,_,h=>by simp[knl] at h
 | (h',ds,r')::l,g,cs,r,h=>by
  simp only[knl] at h;split at h
  .rename_i e;simp only[Bool.and_eq_true,beq_iff_eq] at e;cases h;rw[kE _ _ e.2,e.1];exact mem_cons_self
  .exact mem_cons_of_mem _ (GF l g cs r h)
theorem zo (ht:aF P I.av)(hk:∀ x∈I.Ii,ae P x.1 x.2.1 x.2.2){go:FuncId->List CV->List (Nat×Ob)->Nat->Option (Func×St)}(h:Rn P go):yZ P (qS I go):=by
 intro g cs r hx;unfold qS at hx;split at hx
 .rename_i r' hk';cases hx;exact hk _ (GF _ _ _ _ hk')
 .split at hx
  .split at hx
   .rename_i fn s' hg;split at hx
    .rename_i r0 hr;obtain⟨c,h1,h2,h3,h4,h5⟩:=h _ _ _ _ _ _ hg;refine ae.Nv ht h1 h2 h3 h4 λ C hC M0=>T.mono (h5 C hC M0) ?_;rintro e x ⟨rfl | rfl,rfl⟩<;>exact⟨r0,60,hr,hx⟩
    .cases hx
   .cases hx
  .cases hx
theorem K7 (hI:PE P I):∀ f,Rn P (aM P I f)
 | 0=>λ _ _ _ _ _ _ h=>by simp[aM] at h
 | f+1=>λ g cs H n fn s' h=>by
  have ih:=K7 hI f;simp only[aM] at h;split at h
  .cases h
  .rename_i fn' hf;split at h
   .cases h
   .rename_i c hb;split at h
    .rename_i Xr
     cases hx:oP (JV I (yj I (aM P I f)) (qS I (aM P I f)) g n fn'.ntmps) f c ⟨(enter cs).env,H,n⟩ with
     | none=>rw[hx] at h;cases h
     | some q=>
      rw[hx] at h;obtain⟨e3,s1⟩:=q;have hT:∀ C:Cx,C.nt=fn'.ntmps->C.n0=n->T P C c ⟨(enter cs).env,H,n⟩ λ e x=>e=e3/\x=s1:=λ C hC M0=>by
       have hR:Mb P C (QO I g) (JV I (yj I (aM P I f)) (qS I (aM P I f)) g C.n0 C.nt):=M6 hI (IH ih) (zo hI.av hI.kn ih) g;rw[hC,M0] at hR;exact T.mono (GX hR f c _ _ (hI.gd g fn' c Xr.2.2 hf hb) hx) λ e x he=>he
      cases e3<;>simp only at h<;>first | cases h | skip
      all_goals
       exact⟨c,hf,hb,Xr.1,Xr.2.1,λ C hC M0=>T.mono (hT C hC M0) λ e x he=>⟨by simp[he.1],he.2⟩⟩
    .cases h
theorem eN (hI:PE P I)(f:Nat){g:FuncId}{cs:List CV}{r:CV}(h:qS I (aM P I f) g cs=some r):ae P g cs r:=zo hI.av hI.kn (K7 hI f) g cs r h
end
def Da (P:Program)(I:IP)(l:List Nat):Bool:=l.all λ g=>match P.funcs[g]? with
 | some fn=>match fn.body with
  | some c=>iB (QO I g) c
  | none=>true
 | none=>true
theorem Im {P:Program}(I:IP)(Ii:List (FuncId×List CV×CV))(l:List Nat):Da P { I with Ii:=Ii } l=Da P I l:=rfl
theorem C9 {P:Program}{I:IP}{l:List Nat}(h:Da P I l=true)(hl:∀ g,I.al g=true->g∈l):∀ g fn c,I.al g=true->P.funcs[g]? = some fn->fn.body=some c->iB (QO I g) c=true:=λ g fn c ha hf hb=>by
 have:=all_eq_true.1 h g (hl g ha);simp only[hf,hb] at this;exact this
def KF (P:Program)(t:Nat)(name:String)(g:FuncId):Bool:=match P.info? t with
 | some i=>match i.methods.find? (·.name == name) with
  | some m=>match m.path.toList,m.func with
   | [],some (h,false)=>h == g && match P.underlying t with
    | some (.pointer _)=>false
    | some _=>true
    | none=>false
   | _,_=>false
  | none=>false
 | none=>false
theorem KE {P:Program}{t:Nat}{name:String}{g:FuncId}(h:KF P t name g=true):BB P t name g:=by
 unfold KF at h;split at h
 .rename_i i hi;split at h
  .rename_i m hm;split at h
   .rename_i k hp hf;simp only[Bool.and_eq_true,beq_iff_eq] at h;obtain⟨rfl,h2⟩:=h;refine⟨⟨i,m,hi,hm,hp,by rw[Array.isEmpty_iff_size_eq_zero,<- Array.length_toList,hp];rfl,hf⟩,?_⟩;split at h2
    .cases h2
    .rename_i d hn hd;exact⟨d,hd,λ e he=>hn e (by rw[he])⟩
    .cases h2
   .cases h
  .cases h
 .cases h
def Gx (P:Program)(mt:jh):Bool:=mt.all λ x=>KF P x.1.1 x.1.2 x.2
theorem qX {P:Program}{mt:jh}(h:Gx P mt=true):jM P mt:=λ x hx=>KE (all_eq_true.1 h x hx)
end Go.Can
namespace Go.Proofs.YtlkmbdfhdknlgaaGreat
open Go.Can Go.aK List Tryz
def ral:List Nat:=[200,206]
def rip:IP:=⟨av,[],λ g=>ral.contains g,λ _=>true,λ _ _=>none,[],[],[]⟩
theorem rgd:Da prog rip ral=true:=by kernel_rfl
theorem xh:PE prog rip:=⟨by simp[rip],af,qX Bw,by intro x hx;simp[rip] at hx,by intro x hx;simp[rip] at hx,follows,C9 (l:=ral) rgd λ g ha=>by simpa [rip] using ha⟩
def xB (k:Nat):List ByteArray×List Int:=match k with
 | 0=>([⟨#[124,124]⟩],[17])
 | 1=>([⟨#[38,38]⟩],[16])
 | 2=>([⟨#[61,61]⟩,⟨#[33,61]⟩,⟨#[60]⟩,⟨#[60,61]⟩,⟨#[62]⟩,⟨#[62,61]⟩],[14,15,10,11,12,13])
 | 3=>([⟨#[43]⟩,⟨#[45]⟩],[8,9])
 | _=>([⟨#[42]⟩,⟨#[47]⟩,⟨#[37]⟩],[5,6,7])
theorem gq:∀ k:Nat,k<=17->ae prog 206 [I k] (I (oW k))
 | 0,_=>eN (I:=rip) xh 300 Bw
 | 1,_=>eN (I:=rip) xh 300 Bw
 | 2,_=>eN (I:=rip) xh 300 Bw
 | 3,_=>eN (I:=rip) xh 300 Bw
 | 4,_=>eN (I:=rip) xh 300 Bw
 | 5,_=>eN (I:=rip) xh 300 Bw
 | 6,_=>eN (I:=rip) xh 300 Bw
 | 7,_=>eN (I:=rip) xh 300 Bw
 | 8,_=>eN (I:=rip) xh 300 Bw
 | 9,_=>eN (I:=rip) xh 300 Bw
 | 10,_=>eN (I:=rip) xh 300 Bw
 | 11,_=>eN (I:=rip) xh 300 Bw
 | 12,_=>eN (I:=rip) xh 300 Bw
 | 13,_=>eN (I:=rip) xh 300 Bw
 | 14,_=>eN (I:=rip) xh 300 Bw
 | 15,_=>eN (I:=rip) xh 300 Bw
 | 16,_=>eN (I:=rip) xh 300 Bw
 | 17,_=>eN (I:=rip) xh 300 Bw
 | _+18,h=>absurd h yA
theorem JI:∀ k:Nat,k<=4->ae prog 200 [I k] (.cF [strs (xB k).1,ints (xB k).2])
 | 0,_=>eN (I:=rip) xh 300 Bw
 | 1,_=>eN (I:=rip) xh 300 Bw
 | 2,_=>eN (I:=rip) xh 300 Bw
 | 3,_=>eN (I:=rip) xh 300 Bw
 | 4,_=>eN (I:=rip) xh 300 Bw
 | _+5,h=>absurd h yA
def bN (gs:List Gl)(ms:List Mx)(nf left:Nat)(ar:Bool):Ob:=⟨128,0,[.ax 0 0,.az (gs.flatMap qH) gs.length,.az (ms.flatMap cP) ms.length,.a7 2 0 nf,I left,.bool ar]⟩
@[simp] theorem wrOb_frz (gs:List Gl)(ms:List Mx)(nf left:Nat)(ar:Bool)(o:Nat)(h:o≠0)(h2:o≠2)(cs:List CV)(n:Nat):(⟨(bN gs ms nf left ar).elem,(bN gs ms nf left ar).sz,(bN gs ms nf left ar).cells.map (cC o cs n)⟩:Ob)=bN gs ms nf left ar:=by
 have h':¬ 0=o:=λ e=>h e.symm;have Wc:¬ 2=o:=λ e=>h2 e.symm;simp[bN,h',Wc]
@[simp] theorem RA (ρ:Nat->Nat)(h0:ρ 0=0)(h2:ρ 2=2)(gs:List Gl)(ms:List Mx)(nf left:Nat)(ar:Bool):bb ρ (bN gs ms nf left ar)=bN gs ms nf left ar:=by
 simp only[bb,bN,aX,cO,h0,h2]
@[simp] theorem Rx (L:List Int)(i n:Nat):(aJ L i).cells.all (aU n)=true:=rfl
@[simp] theorem Rv (L:List Int)(i n:Nat):ba n (aJ L i).cells=true:=rfl
@[simp] theorem Jd (gs:List Gl)(ms:List Mx)(nf left:Nat)(ar:Bool)(n:Nat)(h:2<n):(bN gs ms nf left ar).cells.all (aU n)=true:=by
 have h':0<n:=by omega
 simp[bN,h,h']
@[simp] theorem wrOb_lts (gs:List Gl)(ms:List Mx)(nf left:Nat)(ar:Bool)(n:Nat)(h:2<n):ba n (bN gs ms nf left ar).cells=true:=by rw[aT];exact Jd gs ms nf left ar n h
theorem y9 (r:Rf):trees (mh r)=true:=by
 rcases r with ⟨_,_ | _⟩<;>rfl
theorem oT (L:List Int)(hL:L.length<=1000)(vars:List ByteArray)(hv:vars.length<=1000)(gs:List Gl)(ms:List Mx)(nf left:Nat)(ar:Bool)(i:Nat)(hi:i<=L.length) :
  Body prog av 124 [.ax 1 0,.a7 3 0 vars.length] [(0,aJ L i),(1,bN gs ms nf left ar),(3,bu vars)] 4 (iO (.agg (bf (dJ L ar vars i).1)) [(0,aJ L (dJ L ar vars i).2),(1,bN gs ms nf left ar),(3,bu vars)] 4):=by
 refine Body.iZ Tryz.func124 rfl Bw (by simp[Tryz.ntmps124]) λ C hC M0=>?_;rw[Tryz.ntmps124] at hC;apply aq;simp[hC]
 cases ar with
 | false=>
  apply aW;simp[hC,bN];refine du ?_;simp;apply aq;simp[hC];refine TL.cZ af [0,3] 4 (xb L hL vars hv 0 i yA hi) Rg rfl rfl rfl rfl xr TJ TG rfl (TL.go' af ?_);simp[bC];apply T.ret;refine aa.le (Le.trim [4] [0,1,3,4] 5 yCq yA) ?_;simp;refine aa.le (Le.nz [] [4]) ?_;simp;refine aa.le (Le.di (o:=4) rfl X9) ?_;simp;refine aa.trim [4] [0,1,3] 4 WL yA ⟨_,?_,rfl,?_,rfl⟩
  .simp[dJ,sd,bC]
  .simp[dJ]
 | true=>
  apply aW;simp[hC,bN];refine gk ?_;simp;have P1:=dH L i (show 0<2 by omega);have w1:=cr (1+((cw L i 2).1:Int)) yA yA;apply T.seq;refine T.rx af follows [0,1,2,3,4,5,6,7,8,9,10,11,12] [(3,9)] Bw ?_;simp[hC];refine RX.cZ [0] [0] 1 (cQ L i 2 hi hL yA yA) rfl xr rfl rfl rfl rfl xr TJ TG rfl rfl rfl xr ?_;simp[w1];refine RX.cZ [0,3] [0] 4 (xb L hL vars hv (1+(cw L i 2).1) _ yA (bq _ _ hi)) rfl xr rfl rfl rfl rfl xr TJ TG rfl rfl rfl xr ?_;simp[bC];apply T.ret;refine aa.le (Le.trim [4] [0,1,3,4] 18 yCq yA) ?_;simp;refine aa.le (Le.nz [] [4]) ?_;simp;refine aa.le (Le.di (o:=4) rfl X9) ?_;simp;refine aa.trim [4] [0,1,3] 4 WL yA ⟨_,?_,rfl,?_,rfl⟩
  .simp[dJ,sd,bC]
  .simp[dJ]
theorem Hl (L:List Int)(hL:L.length<=1000)(vars:List ByteArray)(hv:vars.length<=1000)(gs:List Gl)(ms:List Mx)(nf left size:Nat)(hs:0<size)(hs2:size<=1000)(ar:Bool)(i:Nat)(hi:i<=L.length) :
  Body prog av 158 [.ax 1 0,.a7 3 0 vars.length,I size] [(0,aJ L i),(1,bN gs ms nf left ar),(3,bu vars)] 4 (iO (.agg (bf (qx L ar vars size i).1)) [(0,aJ L (qx L ar vars size i).2),(1,bN gs ms nf left ar),(3,bu vars)] 4):=by
 refine Body.iZ Tryz.func158 rfl Bw (by simp[Tryz.ntmps158]) λ C hC M0=>?_;rw[Tryz.ntmps158] at hC;apply aq;simp[hC];have WB:=bq L 3 hi
 cases ar with
 | false=>
  apply aW;simp[hC,bN];refine gk ?_;simp;apply aq;simp[hC];refine TL.cZ af [0] 1 (cQ L i size hi hL hs yA) Rg rfl rfl rfl rfl xr TJ TG rfl (TL.go' af ?_);simp[hC];apply T.ret;refine aa.le (Le.trim [6] [0,1,3,4] 5 yCz yA) ?_;simp;refine aa.le (Le.nz [] [4]) ?_;simp;refine aa.le (Le.di (o:=4) rfl X9) ?_;simp;refine aa.trim [6] [0,1,3] 4 WL yA ⟨_,?_,rfl,?_,rfl⟩
  .simp[qx,bf,eS]
  .simp[qx]
 | true=>
  apply aW;simp[hC,bN];refine TL.cZ af [0] 1 (cQ L i 3 hi hL yA yA) Rg rfl rfl rfl rfl xr TJ TG rfl (TL.go' af ?_);simp[hC];refine T.bw rfl (λ h=>?_) (λ h=>?_)
  .have h1:(cw L i 3).1=1:=by simpa using h
   apply aq;simp[hC];refine TL.cZ af [0,3] 4 (xb L hL vars hv 1 _ yA WB) Rg rfl rfl rfl rfl xr TJ TG rfl (TL.go' af ?_);simp[bC];apply T.ret;refine aa.le (Le.trim [6] [0,1,3,4] 5 yCq yA) ?_;simp;refine aa.le (Le.nz [] [4]) ?_;simp;refine aa.le (Le.di (o:=4) rfl X9) ?_;simp;refine aa.trim [6] [0,1,3] 4 WL yA ⟨_,?_,rfl,?_,rfl⟩
   .simp[qx,h1,sd,bC]
   .simp[qx,h1]
  .have h1:¬ (cw L i 3).1=1:=by simpa using h
   apply T.skip;simp;apply aq;simp[hC];refine TL.cZ af [0] 1 (cQ L _ size WB hL hs yA) Rg rfl rfl rfl rfl xr TJ TG rfl (TL.go' af ?_);simp[hC];apply T.ret;refine aa.le (Le.trim [6] [0,1,3,4] 5 yCz yA) ?_;simp;refine aa.le (Le.nz [] [4]) ?_;simp;refine aa.le (Le.di (o:=4) rfl X9) ?_;simp;refine aa.trim [6] [0,1,3] 4 WL yA ⟨_,?_,rfl,?_,rfl⟩
   .simp[qx,bf,eS,h1]
   .simp[qx,h1]
def mj:List CV:=[.str ⟨#[]⟩,.aj]
def iu (nm:ByteArray)(ps:List Pm)(bc:List CV)(bn:Nat):List CV:=[.str nm,.az (ps.flatMap mr) ps.length,.az bc bn]
section
variable (L:List Int)(vars:List ByteArray)(gs:List Gl)(ms:List Mx)(nf left:Nat)(ar:Bool)(i:Nat)(nm:ByteArray)(ps:List Pm)(bc:List CV)(bn:Nat)
def J86 (m:Nat)(s:St):Prop:=∃ k:Nat,m=ms.length-k/\k<=ms.length/\
 s=⟨[(8,I k),(7,.a7 6 0 k),(6,.ax 5 0),(4,.ax 4 0),(0,.ax 1 0),(2,.a7 3 0 vars.length)],[(0,aJ L i),(1,bN gs ms nf left ar),(3,bu vars),(4,⟨136,0,iu nm ps bc bn⟩),(5,⟨204,0,mj⟩),(6,bu ((ms.take k).map (·.name)))],7⟩
def K86 (m:Nat)(s:St):Prop:=∃ k:Nat,m=ps.length-k/\k<=ps.length/\
 s=⟨[(10,I k),(9,I ms.length),(7,.a7 6 0 (cg ms (ps.take k)).length),(6,.ax 5 0),(4,.ax 4 0),(0,.ax 1 0),(2,.a7 3 0 vars.length)],[(0,aJ L i),(1,bN gs ms nf left ar),(3,bu vars),(4,⟨136,0,iu nm ps bc bn⟩),(5,⟨204,0,mj⟩),(6,bu (cg ms (ps.take k)))],7⟩
end
theorem vV (L:List Int)(hL:L.length<=1000)(vars:List ByteArray)(hv:vars.length<=1000)(gs:List Gl)(ms:List Mx)(hm:0<ms.length)(Yx:ms.length<=100)(SB:∀ m∈ms,m.size<=1000)(nf left:Nat)(ar:Bool)(i:Nat)(hi:i<=L.length)
  (nm:ByteArray) (ps:List Pm) (hp:ps.length<=100) (bc:List CV) (bn:Nat) :
  Body prog av 123 [.ax 1 0,.agg (iu nm ps bc bn),.a7 3 0 vars.length] [(0,aJ L i),(1,bN gs ms nf left ar),(3,bu vars)] 4 (iO (.agg (mh (j6 L ar ms ps vars i).1)) [(0,aJ L (j6 L ar ms ps vars i).2),(1,bN gs ms nf left ar),(3,bu vars)] 4):=by
 generalize Tw:j6 L ar ms ps vars i=res;refine Body.iZ Tryz.func123 rfl Bw (by simp[Tryz.ntmps123]) λ C hC M0=>?_;rw[Tryz.ntmps123] at hC;apply aq;simp[hC,iu];apply aq;simp[hC];apply aW;simp[hC];apply T.block;refine T.aI (J86 L vars gs ms nf left ar i nm ps bc bn) (n:=ms.length) ?_ ?_
 .refine aa.le (Le.own 7 9 1 rfl) (aa.trim [8,7,6,4,0,2] [0,1,3,4,5,6] 7 (by simp[aJ,bN]) yA ⟨0,rfl,Nat.zero_le _,?_⟩);simp[bu,mj,iu]
 .rintro n s ⟨k,rfl,hk,rfl⟩;have hNl:((ms.take k).map (·.name)).length=k:=by simp;omega
  generalize hN:(ms.take k).map (·.name)=N at hNl;apply aW;simp[hC,bN];refine T.bw rfl (λ h=>?_) (λ h=>?_)
  .have SO:k<ms.length:=by simpa using h
   obtain⟨m,hmk⟩:∃ m,ms[k]? = some m:=⟨ms[k],getElem?_eq_getElem SO⟩;have hd:=aL (f:=cP) (n:=3) (λ _=>rfl) hmk;have wi:=cr ((k:Int)+1) yA yA;have hb:(k+1)*16<=140737488355328:=by omega
   have SE:ms.take (k+1)=ms.take k++[m]:=by rw[take_add_one,hmk];rfl
   have hN':(ms.take (k+1)).map (·.name)=N++[m.name]:=by rw[SE,map_append,hN];rfl
   apply T.skip;simp;refine T.seq (T.block (T.go' af ?_));simp[hC,SO,hd,cP,bu,hb,hNl];apply aM;simp[hC,wi];refine⟨ms.length-(k+1),by omega,aa.le (Le.trim [8,7,6,4,0,2] [0,1,3,4,5,8] 9 (by simp[aJ,iu,mj]) yA) ?_⟩;simp;refine aa.le (Le.qt 8 6 rfl rfl yA xr (by simp ) (by simp[aJ,ints,iu,mj])) ?_;simp[aJ,ints,iu,mj];refine aa.trim [8,7,6,4,0,2] [0,1,3,4,5,6] 7 xr yA ⟨k+1,rfl,SO,?_⟩;simp only[hN'];simp[bu,mj,iu,bN,aJ,ints]
  .have SO:k=ms.length:=by
    have:¬ k<ms.length:=by simpa using h
    omega
   subst SO;rw[take_length] at hN;apply T.exit;simp;refine T.le (Le.trim [7,6,4,0,2] [0,1,3,4,5,6] 7 (by simp[aJ,iu,mj,bu]) yA) ?_;simp;apply aq;simp[hC,bu];apply aW;simp[hC];apply T.block;refine T.aI (K86 L vars gs ms nf left ar i nm ps bc bn) (n:=ps.length) ?_ ?_
   .refine aa.trim [10,9,7,6,4,0,2] [0,1,3,4,5,6] 7 (by simp[aJ,iu,mj]) yA ⟨0,rfl,Nat.zero_le _,?_⟩;simp[bu,mj,iu,cg,<- hN,bN]
   .rintro n s ⟨j,rfl,hj,rfl⟩;have hNl2:(cg ms (ps.take j)).length<=300:=by
     have:∀ l:List Pm,(l.flatMap IW).length<=l.length*2:=by
      intro l
      induction l with
      | nil=>simp
      | cons a r ih=>
       simp only[flatMap_cons,length_append,length_cons];have:(IW a).length<=2:=by unfold IW;split<;>simp
       omega
     have h1:=this (ps.take j);simp only[cg,length_append,length_map];simp only[length_take] at h1;omega
    generalize hN2:cg ms (ps.take j)=N2 at hNl2;apply aW;simp[hC,iu];refine T.bw rfl (λ h=>?_) (λ h=>?_)
    .have Tl:j<ps.length:=by simpa using h
     obtain⟨p,hpj⟩:∃ p,ps[j]? = some p:=⟨ps[j],getElem?_eq_getElem Tl⟩;have hd:=aL (f:=mr) (n:=2) (λ _=>rfl) hpj;have Tz:=cb (f:=mr) (n:=2) (λ _=>rfl) hpj 1 yA;have wi:=cr ((j:Int)+1) yA yA;have SE:ps.take (j+1)=ps.take j++[p]:=by rw[take_add_one,hpj];rfl
     have hN3:cg ms (ps.take (j+1))=N2++IW p:=by rw[SE,<- hN2];simp[cg]
     apply T.skip;simp;refine T.seq (T.block (aq ?_));simp[hC,Tl,Tz,mr];refine T.cond (b:=p.mutex) rfl ?_
     cases Zo:p.mutex with
     | true=>
      have U5:IW p=[p.name,p.name]:=by simp[IW,Zo]
      have hb:(N2.length+2)*16<=140737488355328:=by omega
      simp;refine T.rx af follows [0,1,2,3,4,5,6,7,8,9,10,11,12,13,14,15] [] Bw ?_;simp[hC,Tl,hd,mr,bu,hb];apply aM;simp[hC,wi];refine⟨ps.length-(j+1),by omega,aa.le (Le.trim [10,9,7,6,4,0,2] [0,1,3,4,5,23] 24 (by simp[aJ,mj,bN]) yA) ?_⟩;simp;refine aa.le (Le.qt 23 6 rfl rfl yA xr (by simp ) (by simp[aJ,ints,mj,bN])) ?_;simp[aJ,ints,mj,bN];refine aa.trim [10,9,7,6,4,0,2] [0,1,3,4,5,6] 7 xr yA ⟨j+1,rfl,Tl,?_⟩;simp only[hN3,U5];simp[bu,mj,iu,bN,aJ,ints]
     | false=>
      have U5:IW p=[]:=by simp[IW,Zo]
      simp;apply T.skip;simp;apply aM;simp[hC,wi];refine⟨ps.length-(j+1),by omega,aa.trim [10,9,7,6,4,0,2] [0,1,3,4,5,6] 7 (by simp[aJ,mj,bN,bu]) yA ⟨j+1,rfl,Tl,?_⟩⟩;simp only[hN3,U5];simp[bu,mj,iu,bN,aJ,ints]
    .have Tl:j=ps.length:=by
      have:¬ j<ps.length:=by simpa using h
      omega
     subst Tl;rw[take_length] at hN2;apply T.exit;simp;refine T.le (Le.trim [9,7,6,4,0,2] [0,1,3,4,5,6] 7 (by simp[aJ,mj,bu,bN]) yA) ?_;simp;have hN0:0<N2.length:=by rw[<- hN2];simp[cg];omega
     apply aq;simp[hC,bN];refine TL.cZ af [0] 1 (cQ L i N2.length hi hL hN0 yA) Rg rfl rfl rfl rfl xr TJ TG rfl (TL.go' af ?_);simp[hC];have Tf:=bq L N2.length hi;have P1:=dH L i hN0;have UU:res=if (cw L i N2.length).1<ms.length/\0<mg ms (cw L i N2.length).1 then
       (⟨N2.getD (cw L i N2.length).1 eS,some (qx L ar vars (mg ms (cw L i N2.length).1) (cw L i N2.length).2).1⟩,(qx L ar vars (mg ms (cw L i N2.length).1) (cw L i N2.length).2).2)
       else (⟨N2.getD (cw L i N2.length).1 eS,none⟩,(cw L i N2.length).2):=by rw[<- hN2,<- Tw];rfl
     generalize cw L i N2.length=k at Tf P1 UU;have OZ:=jR P1;apply aq;simp[hC,bu,P1,OZ];have VV:N2.getD k.1 eS=N2[k.1]:=by simp[getD,P1]
     rw[VV] at UU;refine T.le (Le.trim [12,11,9,6,0,2] [0,1,3,5,7] 8 (by simp[aJ,mj]) yA) ?_;simp;refine T.seq (T.seq ?_);by_cases VT:k.1<ms.length
     .obtain⟨m,hmk⟩:∃ m,ms[k.1]? = some m:=⟨ms[k.1],getElem?_eq_getElem VT⟩;have hd:=cb (f:=cP) (n:=3) (λ _=>rfl) hmk 2 yA;have hsa:mg ms k.1=m.size:=by simp[mg,hmk]
      have TP:=SB m (mem_of_getElem? hmk);have Xq:=cb (f:=cP) (n:=3) (λ _=>rfl) hmk 0 yA;rw[hsa] at UU;apply aM;simp[hC,VT,hd,cP];refine T.bw rfl (λ h=>?_) (λ h=>?_)
      .have Zl:0<m.size:=by simpa using h
       rw[if_pos ⟨VT,Zl⟩] at UU;apply aM;simp[hC,VT,hd,cP];refine TL.cZ af [0,1,3] 4 (Hl L hL vars hv gs ms nf left m.size Zl TP ar k.2 Tf) Rg rfl rfl rfl rfl xr rfl (by first | rfl | simp[aJ,ints,bN]) rfl (TL.go' af ?_);simp[hC,bC,aY];apply aq;simp[hC,mj];apply T.ret;refine aa.le (Le.trim [6] [0,1,3,5,8] 9 (by simp[aJ,bN,-all_eq_true,ij]) yA) ?_;simp;refine aa.le (Le.di (o:=8) rfl (aO _)) ?_;simp;refine aa.le (Le.di (o:=5) rfl rfl) ?_;simp;refine aa.trim [6] [0,1,3] 4 (by simp[aJ,bN]) yA ⟨_,?_,rfl,?_,rfl⟩
       .simp[UU,mh,oL]
       .simp[UU,bN,bu]
      .have Zl:¬ 0<m.size:=by simpa using h
       rw[if_neg λ h=>Zl h.2] at UU;apply T.skip;simp;apply aq;simp[hC,mj];apply T.ret;refine aa.le (Le.trim [6] [0,1,3,5] 8 yCz yA) ?_;simp;refine aa.le (Le.nz [] [5]) ?_;simp;refine aa.le (Le.di (o:=5) rfl X9) ?_;simp;refine aa.trim [6] [0,1,3] 4 WL yA ⟨_,?_,rfl,?_,rfl⟩
       .simp[UU,mh,oL]
       .simp[UU]
     .rw[if_neg λ h=>VT h.1] at UU;apply aM;simp[hC,VT];refine gk ?_;simp;apply aq;simp[hC,mj];apply T.ret;refine aa.le (Le.trim [6] [0,1,3,5] 8 yCz yA) ?_;simp;refine aa.le (Le.nz [] [5]) ?_;simp;refine aa.le (Le.di (o:=5) rfl X9) ?_;simp;refine aa.trim [6] [0,1,3] 4 WL yA ⟨_,?_,rfl,?_,rfl⟩
      .simp[UU,mh,oL]
      .simp[UU]
theorem wJ (x:Ar):(qA x).length=7:=by cases x<;>simp[qA,mh,ml,bC]
theorem rM (L:List Int)(ar:Bool)(ms:List Mx)(ps:List Pm)(vars:List ByteArray)(p:Pm):∀ (l:List Pm) (i:Nat),dC L ar ms ps vars (l++[p]) i=((dC L ar ms ps vars l i).1++(dC L ar ms ps vars [p] (dC L ar ms ps vars l i).2).1,(dC L ar ms ps vars [p] (dC L ar ms ps vars l i).2).2)
 | [],i=>by simp[dC]
 | q::r,i=>by
  rw[cons_append,dC,dC];split
  .rw[rM L ar ms ps vars p r];simp
  .rw[rM L ar ms ps vars p r];simp
theorem u0 (L:List Int)(ar:Bool)(ms:List Mx)(ps:List Pm)(vars:List ByteArray):∀ (l:List Pm) (i:Nat),(dC L ar ms ps vars l i).1.length=l.length
 | [],i=>rfl
 | q::r,i=>by
  rw[dC];split<;>simp[u0 L ar ms ps vars r]
@[simp] theorem Qw (l:List Ar):(l.flatMap qA).map nz=l.flatMap qA:=by
 induction l with
 | nil=>rfl
 | cons a r ih=>
  rw[flatMap_cons,map_append,ih];congr 1;rcases a with ⟨_,_ | _⟩ | e<;>simp[qA,mh,ml,oL,bf]
@[simp] theorem nz_opC (e:Option Ex):nz (oL e)=oL e:=by cases e<;>rfl
@[simp] theorem tree_opC (e:Option Ex):tree (oL e)=true:=by cases e<;>rfl
@[simp] theorem Qe (n:Nat)(e:Option Ex):aU n (oL e)=true:=by cases e<;>rfl
@[simp] theorem RY (n:Nat)(e:Option Ex):aS n (oL e)=true:=by cases e<;>rfl
@[simp] theorem ok1_opC (o q:Nat)(e:Option Ex):oM o q (oL e)=true:=by cases e<;>rfl
@[simp] theorem ren1_opC (o q:Nat)(e:Option Ex):dG o q (oL e)=oL e:=by cases e<;>rfl
@[simp] theorem frzV_opC (o:Nat)(cs:List CV)(n:Nat)(e:Option Ex):cC o cs n (oL e)=oL e:=by cases e<;>rfl
theorem AM (o q:Nat)(e:Ex):(bf e).all (oM o q)=true:=bx (aO e) o q
@[simp] theorem ren1_exC (o q:Nat)(e:Ex):(bf e).map (dG o q)=bf e:=bl (aO e) o q
theorem Hq (l:List Ar):trees (l.flatMap qA)=true:=by
 induction l with
 | nil=>rfl
 | cons a r ih=>
  rw[flatMap_cons,a9,ih,Bool.and_true];rcases a with ⟨_,_ | _⟩ | e<;>simp only[qA,mh,ml,oL,cons_append,nil_append,trees,tree,aO,Bool.and_self]
section
variable (L:List Int)(vars:List ByteArray)(gs:List Gl)(ms:List Mx)(nf left:Nat)(ar:Bool)(i:Nat)(nm:ByteArray)(ps:List Pm)(bc:List CV)(bn:Nat)(nm':ByteArray)(Ui:List Pm)(bc':List CV)(bn':Nat)
def J88 (m:Nat)(s:St):Prop:=∃ k:Nat,m=Ui.length-k/\k<=Ui.length/\
 s=⟨[(10,I k),(9,.a7 6 0 k),(6,.ax 5 0),(5,.ax 4 0),(0,.ax 1 0),(3,.a7 3 0 vars.length)],[(0,aJ L (dC L ar ms ps vars (Ui.take k) i).2),(1,bN gs ms nf left ar),(3,bu vars),(4,⟨136,0,iu nm ps bc bn⟩),(5,⟨136,0,iu nm' Ui bc' bn'⟩),(6,⟨243,7,(dC L ar ms ps vars (Ui.take k) i).1.flatMap qA⟩)],7⟩
end
theorem Je (L:List Int)(hL:L.length<=1000)(vars:List ByteArray)(hv:vars.length<=1000)(gs:List Gl)(ms:List Mx)(hm:0<ms.length)(Yx:ms.length<=100)(SB:∀ m∈ms,m.size<=1000)(nf left:Nat)(ar:Bool)(i:Nat)(hi:i<=L.length)
  (nm:ByteArray) (ps:List Pm) (hp:ps.length<=100) (bc:List CV) (bn:Nat) (nm':ByteArray) (Ui:List Pm) (W4:Ui.length<=100) (bc':List CV) (bn':Nat) :
  Body prog av 125 [.ax 1 0,.agg (iu nm ps bc bn),.agg (iu nm' Ui bc' bn'),.a7 3 0 vars.length] [(0,aJ L i),(1,bN gs ms nf left ar),(3,bu vars)] 4
   (iO (.az ((dC L ar ms ps vars Ui i).1.flatMap qA) Ui.length) [(0,aJ L (dC L ar ms ps vars Ui i).2),(1,bN gs ms nf left ar),(3,bu vars)] 4):=by
 refine Body.iZ Tryz.func125 rfl Bw (by simp[Tryz.ntmps125]) λ C hC M0=>?_;rw[Tryz.ntmps125] at hC;apply aq;simp[hC,iu];apply aq;simp[hC];apply aW;simp[hC];apply T.block;refine T.aI (J88 L vars gs ms nf left ar i nm ps bc bn nm' Ui bc' bn') (n:=Ui.length) ?_ ?_
 .refine aa.le (Le.own 9 243 7 rfl) (aa.trim [10,9,6,5,0,3] [0,1,3,4,5,6] 7 (by simp[aJ,bN]) yA ⟨0,rfl,Nat.zero_le _,?_⟩);simp[dC,iu]
 .rintro n s ⟨k,rfl,hk,rfl⟩;have hAl:(dC L ar ms ps vars (Ui.take k) i).1.length=k:=by rw[u0];simp;omega
  have Tf:(dC L ar ms ps vars (Ui.take k) i).2<=L.length:=tK _ _ _ _ _ _ hi;have Tg:=aG (f:=qA) (n:=7) wJ (dC L ar ms ps vars (Ui.take k) i).1;rw[hAl] at Tg;have Sz:=Hq (dC L ar ms ps vars (Ui.take k) i).1;generalize hA:dC L ar ms ps vars (Ui.take k) i=A at hAl Tf Tg Sz;have hnz:=Qw A.1;generalize hX:A.1.flatMap qA=X at Tg Sz hnz;have hl8:=ai Sz 9;have SU:=bx Sz 8 6;have VM:=bl Sz 8 6;have hl6:=ai Sz 7;apply aW;simp[hC,iu];refine T.bw rfl (λ h=>?_) (λ h=>?_)
  .have SO:k<Ui.length:=by simpa using h
   obtain⟨p,VO⟩:∃ p,Ui[k]? = some p:=⟨Ui[k],getElem?_eq_getElem SO⟩;have Tz:=cb (f:=mr) (n:=2) (λ _=>rfl) VO 1 yA;have wi:=cr ((k:Int)+1) yA yA;have SE:Ui.take (k+1)=Ui.take k++[p]:=by rw[take_add_one,VO];rfl
   have hA1:dC L ar ms ps vars (Ui.take (k+1)) i=(A.1++(dC L ar ms ps vars [p] A.2).1,(dC L ar ms ps vars [p] A.2).2):=by rw[SE,rM,hA]
   have hb:(k+1)*104<=140737488355328:=by omega
   apply T.skip;simp;refine T.seq (T.block (aq ?_));simp[hC,SO,Tz,mr];refine T.cond (b:=p.mutex) rfl ?_
   cases Zo:p.mutex with
   | true=>
    have UU:dC L ar ms ps vars [p] A.2=([.xF (j6 L ar ms ps vars A.2).1],(j6 L ar ms ps vars A.2).2):=by simp[dC,Zo]
    rw[UU] at hA1;simp;apply aM;simp[hC];refine TL.cZ af [0,1,3] 4 (vV L hL vars hv gs ms hm Yx SB nf left ar A.2 Tf nm ps hp bc bn) Rg rfl rfl rfl rfl xr rfl (by first | rfl | simp[aJ,ints,bN]) rfl (TL.go' af ?_);simp[hC,mh,aY,Tg,hb];apply aM;simp[hC,wi];refine⟨Ui.length-(k+1),by omega,aa.le (Le.trim [10,9,6,5,0,3] [0,1,3,4,5,8] 9 (by simp[aJ,bN,-all_eq_true,hl8]) yA) ?_⟩;simp;refine aa.le (Le.nz [] [8]) ?_;simp[hnz];refine aa.le (Le.qt 8 6 rfl rfl yA xr (by simp ) (by simp[aJ,ints,bN,-all_eq_true,SU])) ?_;simp[aJ,ints,bN,VM];refine aa.trim [10,9,6,5,0,3] [0,1,3,4,5,6] 7 (by simp[-all_eq_true,hl6]) yA ⟨k+1,rfl,SO,?_⟩;simp only[hA1];simp[iu,bN,aJ,ints,qA,mh,bf,eS,hX]
   | false=>
    have UU:dC L ar ms ps vars [p] A.2=([.exp (dJ L ar vars A.2).1],(dJ L ar vars A.2).2):=by simp[dC,Zo]
    rw[UU] at hA1;simp;apply aM;simp[hC];refine TL.cZ af [0,1,3] 4 (oT L hL vars hv gs ms nf left ar A.2 Tf) Rg rfl rfl rfl rfl xr rfl (by first | rfl | simp[aJ,ints,bN]) rfl (TL.go' af ?_);simp[hC,bC,aY,Tg,hb];apply aM;simp[hC,wi];refine⟨Ui.length-(k+1),by omega,aa.le (Le.trim [10,9,6,5,0,3] [0,1,3,4,5,8] 9 (by simp[aJ,bN,-all_eq_true,hl8,ij]) yA) ?_⟩;simp;refine aa.le (Le.nz [] [8]) ?_;simp[hnz];refine aa.le (Le.qt 8 6 rfl rfl yA xr (by simp ) (by simp[aJ,ints,bN,-all_eq_true,SU,AM])) ?_;simp[aJ,ints,bN,VM];refine aa.trim [10,9,6,5,0,3] [0,1,3,4,5,6] 7 (by simp[-all_eq_true,hl6,ij]) yA ⟨k+1,rfl,SO,?_⟩;simp only[hA1];simp[iu,bN,aJ,ints,qA,ml,eS,hX]
  .have SO:k=Ui.length:=by
    have:¬ k<Ui.length:=by simpa using h
    omega
   subst SO;rw[take_length] at hA;rw[hA];apply T.exit;simp;apply aq;simp[hC];apply T.ret;refine aa.le (Le.trim [8] [0,1,3,6] 7 (by simp[aJ,bN,-all_eq_true,hl6]) yA) ?_;simp;refine aa.le (Le.di (o:=6) rfl Sz) ?_;have hxt:X.take (Ui.length*7)=X:=take_of_length_le yA;simp[hxt];refine aa.trim [8] [0,1,3] 4 (by simp[aJ,bN]) yA ⟨_,?_,rfl,?_,rfl⟩
   .simp[hX]
   .simp[bN]
end Go.Proofs.YtlkmbdfhdknlgaaGreat
