/- Source.Expr. -/
import Derived.Test.YtlkmbdfhdknlgaaGreatDoorZ19
import Derived.Laws.Strings
namespace Go.Proofs.YtlkmbdfhdknlgaaGreatDoor
open Go.Can Go.aT
def BW:List CV:=[.int .i64 0,.int .i64 0,.str ⟨#[]⟩,.ag]
theorem gS {ns:List ByteArray}{i:Nat}(h:i<ns.length):(ns.map CV.str).drop i=.str (ns.getD i eS)::(ns.map CV.str).drop (i+1):=by
 rw[List.drop_eq_getElem_cons ON];simp[h]
theorem DQ (L:List Int)(ns:List ByteArray)(d i:Nat)(h:d=0∨(bO L i 10).1<2):ov L ns d i=oa L ns (bO L i 10).2:=by
 cases d with
 | zero=>rfl
 | succ d=>
  rw[ov,if_pos];rcases h with h | h
  ·cases h
  ·exact h
theorem bu:∀ a b:List CV,trees (a++b)=(trees a && trees b)
 | [],b=>by simp[trees]
 | x::r,b=>by simp[trees,Bool.and_assoc]
@[simp] theorem bj (e:Ex):trees (bC e)=true:=by cases e<;>rfl
theorem drop8 (a:Ex)(x y z w:CV):List.drop 8 (bC a++[x,y,z,w])=[]:=List.drop_eq_nil_of_le (by simp[bA])
theorem nL (e:Ex):List.take 4 (bC e)=bC e:=List.take_of_length_le (by simp[bA])
theorem AJ (a b:Ex):List.take 8 (bC a++bC b)=bC a++bC b:=List.take_of_length_le (by simp[bA])
theorem CH (n:Nat)(e:Ex)(x:CV)(h:x∈bC e):aZ n x=true:=by
 rw[bJ] at h;simp only[List.mem_cons,List.not_mem_nil,or_false] at h;rcases h with rfl | rfl | rfl | rfl<;>rfl
theorem gL (n:Nat)(e:Ex):(bC e).all (aZ n)=true:=List.all_eq_true.2 (CH n e)
@[simp] theorem nz_exC (e:Ex):(bC e).map nz=bC e:=by cases e<;>rfl
@[simp] theorem frz_exC (o:Nat)(cs:List CV)(n:Nat)(e:Ex):(bC e).map (bZ o cs n)=bC e:=by cases e<;>rfl
attribute [simp] nL AJ bA
theorem qO (L:List Int)(hL:L.length≤1000)(ns:List ByteArray)(Mo:ns.length≤1000):∀ (d i:Nat),d≤1000→i≤L.length →
  Body Tryz.prog ak 103 [.ai 0 0,.bw 3 0 ns.length,I d] [(0,ax L i),(3,aW ns)] 4 (jQ (.agg (bC (ov L ns d i).1)) [(0,ax L (ov L ns d i).2),(3,aW ns)] 4):=by
 intro d
 induction d using Nat.strongRecOn with
 | _ d ih=>
 intro i hd hi;refine Body.je Tryz.func103 rfl lz (by simp[Tryz.ntmps103]) fun C hC xJ=>?_;rw[Tryz.ntmps103] at hC;apply ah;simp[hC];apply ah;simp[hC];refine TL.cd af [0] 1 (bX L i 10 hi hL yA yA) yI rfl rfl rfl rfl j5 Ku Kt rfl (TL.go' af ?_);simp[hC];have Kp:=aV L 10 hi;have Wc:=DQ L ns d i;generalize hk:bO L i 10=k at Kp Wc;apply fw;refine T.cut (fun s=>s=⟨[(10,.bool (decide (d=0) || decide (k.1<2))),(7,I k.1),(6,.ai 4 0),(0,.ai 0 0),(1,.bw 3 0 ns.length),(2,I d)],[(0,ax L k.2),(3,aW ns),(4,⟨131,0,BW⟩)],5⟩) ?_ ?_
 ·by_cases h0:d=0
  ·apply a8;simp[hC,h0];refine aa.trim [10,7,6,0,1,2] [0,3,4] 5 NJ yA ?_;simp[BW]
  ·apply a8;simp[hC,h0];refine aa.trim [10,7,6,0,1,2] [0,3,4] 5 NJ yA ?_;simp[BW]
 ·rintro s rfl;refine T.aX rfl (fun h=>?_) (fun h=>?_)
  ·have hl:d=0∨k.1<2:=by simpa using h
   rw[Wc hl];clear Wc ih
      /- the leaf: is there a name to be taken? -/
   refine T.seq (T.cut (fun s=>s=⟨[(24,.bool (decide (0<ns.length∧(bO L k.2 2).1=1))),(6,.ai 4 0),(0,.ai 0 0),(1,.bw 3 0 ns.length)],[(0,ax L (if 0<ns.length then (bO L k.2 2).2 else k.2)),(3,aW ns),(4,⟨131,0,BW⟩)],5⟩) ?_ ?_)
   ·by_cases Th:0<ns.length
    ·apply a8;simp[hC,Th];refine TL.cd af [0] 1 (bX L k.2 2 Kp hL yA yA) yI rfl rfl rfl rfl j5 Ku Kt rfl (TL.go' af ?_);simp[hC];refine aa.trim [24,6,0,1] [0,3,4] 5 (by simp[ax,BW]) yA ?_;simp[BW]
    ·apply a8;simp[hC,Th];refine aa.trim [24,6,0,1] [0,3,4] 5 (by simp[ax,BW]) yA ?_;simp[BW]
   ·rintro s rfl;have KK:=aV L 2 Kp;refine T.aX rfl (fun h=>?_) (fun h=>?_)
    ·have hh:0<ns.length∧(bO L k.2 2).1=1:=by simpa using h
     have yN:=cI L (bO L k.2 2).2 hh.1;have oy:=gS yN;apply ah;simp[hC,hh.1];refine TL.cd af [0] 1 (bX L _ ns.length KK hL yA yA) yI rfl rfl rfl rfl j5 Ku Kt rfl (TL.go' af ?_);simp[hC,yN,oy,aW,BW];apply T.ret;refine aa.le (Le.nz [] [4]) ?_;simp;refine aa.le (Le.dC (o:=4) rfl rfl) ?_;simp;refine aa.trim [6] [0,3] 4 NJ yA ⟨_,rfl,?_⟩;simp[jQ,oa,hh.1,hh.2,bC,eS,yN]
    ·have hh:¬ (0<ns.length∧(bO L k.2 2).1=1):=by simpa using h
     have Mq:(if 0<ns.length then (bO L k.2 2).2 else k.2)≤L.length:=by
      split
      ·exact KK
      ·exact Kp
     apply T.skip;simp;apply ah;simp[hC];refine TL.cd af [0] 1 (Bh L _ Mq hL) yI rfl rfl rfl rfl j5 Ku Kt rfl (TL.go' af ?_);simp[hC,BW];apply T.ret;refine aa.le (Le.nz [] [4]) ?_;simp;refine aa.le (Le.dC (o:=4) rfl rfl) ?_;simp;refine aa.trim [6] [0,3] 4 NJ yA ⟨_,rfl,?_⟩;simp[jQ,oa,hh,bC,eS]
  ·have TQ:¬ d=0∧¬ k.1<2:=by simpa using h
   obtain⟨e,rfl⟩:∃ e,d=e+1:=⟨d-1,by omega⟩;have he1:((e+1:Nat):Int)-1=(e:Int):=by omega
   have we:=cm (e:Int) yA yA;have Vj:=ih e yA;apply ah;simp[hC];refine T.aX rfl (fun h=>?_) (fun h=>?_)
   ·have UD:k.1<4:=by simpa using h
    have hx:ov L ns (e+1) i=(.un (k.1 % 2) (ov L ns e k.2).1,(ov L ns e k.2).2):=by
     rw[ov,hk,if_neg TQ.2,if_pos UD]
    have P0:=lI L ns e Kp;have wm:=cm (3+(k.1:Int) % 2) yA yA;have Zc:(k.1:Int).tmod 2=(k.1:Int) % 2:=Int.tmod_eq_emod_of_nonneg yA;apply ah;simp[hC,we,Zc,wm];refine TL.cd af [0,3] 4 (Vj k.2 yA Kp) yI rfl rfl rfl rfl j5 Ku Kt rfl (TL.go' af ?_);simp[hC,BW,bA,aS];apply T.ret;refine aa.le (Le.trim [6] [0,3,4,5] 6 Sk yA) ?_;simp;refine aa.le (Le.dC (o:=5) rfl (by simp only[bj])) ?_;simp;refine aa.le (Le.dC (o:=4) rfl rfl) ?_;simp;refine aa.trim [6] [0,3] 4 NJ yA ⟨_,rfl,?_⟩;simp[jQ,hx,bC,eS]
   ·have UD:¬ k.1<4:=by simpa using h
    have hx:ov L ns (e+1) i=(.bin (bO L k.2 13).1 (ov L ns e (bO L k.2 13).2).1 (ov L ns e (ov L ns e (bO L k.2 13).2).2).1,(ov L ns e (ov L ns e (bO L k.2 13).2).2).2):=by
     rw[ov,hk,if_neg TQ.2,if_neg UD]
    have P0:=aV L 13 Kp;have QG:=lI L ns e P0;have wb:=cm (5+((bO L k.2 13).1:Int)) yA (by have:=cI L k.2 (show 0<13 by omega);omega);apply T.skip;simp;apply ah;simp[hC];refine TL.cd af [0] 1 (bX L k.2 13 Kp hL yA yA) yI rfl rfl rfl rfl j5 Ku Kt rfl (TL.go' af ?_);simp[hC,wb,we];refine TL.cd af [0,3] 4 (Vj _ yA P0) yI rfl rfl rfl rfl j5 Ku Kt rfl (TL.go' af ?_);simp[hC,we];refine TL.cd af [0,3] 4 (Vj _ yA QG) yI rfl rfl rfl rfl j5 Ku Kt rfl (TL.go' af ?_);simp[hC,BW,bA,aS,drop8];apply T.ret;refine aa.le (Le.trim [6] [0,3,4,5] 6 Sk yA) ?_;simp;refine aa.le (Le.dC (o:=5) rfl (by simp only[bu,bj,Bool.and_self])) ?_;simp;refine aa.le (Le.dC (o:=4) rfl rfl) ?_;simp;refine aa.trim [6] [0,3] 4 NJ yA ⟨_,rfl,?_⟩;simp[jQ,hx,bC,eS]
end Go.Proofs.YtlkmbdfhdknlgaaGreatDoor
namespace Go.Can
open Go.RowKit
section
variable {C:Cx}{σ:Nat→Option OB}{s:St}{w:World}
theorem aG.vY {F:Nat→Prop}{c c':CV}(hc:∀ v,VR w F σ c v→VR w F σ c' v):∀ {cs:List CV} {vs:List Value} {i:Nat},cs[i]? = some c→aG w F σ cs vs→aG w F σ (cs.set i c') vs
 | [],_,_,h,_=>by simp at h
 | d::cs,_,0,h,⟨v,r,e,h1,h2⟩=>by
  simp only[List.getElem?_cons_zero,Option.some.injEq] at h;subst h;exact⟨v,r,e,hc v h1,h2⟩
 | d::cs,_,i+1,h,⟨v,r,e,h1,h2⟩=>by
  simp only[List.getElem?_cons_succ] at h;exact⟨v,r,e,h1,aG.vY hc h h2⟩
theorem pZ {c:CV}(hc:one c=true):∀ (cs:List CV) (i:Nat),cs.all one=true→(cs.set i c).all one=true
 | [],_,h=>h
 | d::cs,0,h=>by
  simp only[List.all_cons,Bool.and_eq_true] at h;simp only[List.set_cons_zero,List.all_cons,hc,h.2,Bool.and_self]
 | d::cs,i+1,h=>by
  simp only[List.all_cons,Bool.and_eq_true] at h;simp only[List.set_cons_succ,List.all_cons,h.1,Bool.true_and];exact pZ hc cs i h.2
theorem Le.nZ (o i:Nat)(e:TypeId)(sz:Nat){ob:Ob}(ho:assoc s.heap o=some ob)(hi:ob.cells[i]? = some .ag):Le C s ⟨s.env,(s.nx,⟨e,sz,[]⟩)::pH s.heap o ⟨ob.elem,ob.sz,ob.cells.set i (.bw s.nx 0 0)⟩,s.nx+1⟩:=by
 intro a w ⟨σ,hr⟩;obtain⟨h1,h2⟩:=hr.fresh (World.grownBy.refl w none) (ob:=⟨e,sz,[]⟩) (B:=⟨none,0,sz⟩) rfl rfl (fun _=>rfl) (fun b hb=>by cases hb);have F0:¬ s.nx=o:=fun h=>by
  obtain⟨B,m1,_⟩:=hr.obj o ob ho;rw[hr.nx o yA] at m1;cases m1
 have hG:(s.nx,(⟨e,sz,[]⟩:Ob))::pH s.heap o ⟨ob.elem,ob.sz,ob.cells.set i (.bw s.nx 0 0)⟩=pH ((s.nx,⟨e,sz,[]⟩)::s.heap) o ⟨ob.elem,ob.sz,ob.cells.set i (.bw s.nx 0 0)⟩:=by
  simp only[pH,if_neg F0]
 have VT:assoc ((s.nx,(⟨e,sz,[]⟩:Ob))::s.heap) o=some ob:=by simp only[assoc,if_neg F0,ho]
 rw[hG];have O0:=nD (C:=C) (σ:=sig σ s.nx ⟨none,0,sz⟩) ((s.nx,(⟨e,sz,[]⟩:Ob))::s.heap) o ⟨ob.elem,ob.sz,ob.cells.set i (.bw s.nx 0 0)⟩;refine⟨_,h1.me,h1.tm,h1.os,h1.tape,h1.output,h1.size,h1.frame,?_,?_,?_,h1.nx,h1.fM,h1.low,h1.new⟩
 ·intro t c hc;obtain⟨v,k1,k2⟩:=h1.env t c hc;exact⟨v,k1,by rw[O0];exact k2⟩
 ·intro p x hp;simp only[eg] at hp;unfold ObR;rw[O0];split at hp
  ·rename_i eo;subst eo;rw[VT] at hp;simp only[Option.map_some,Option.some.injEq] at hp;subst hp;obtain⟨B,m1,m2,m3,m4,m5⟩:=h1.obj o ob VT;refine⟨B,m1,m2,fun hb=>by simp[m3 hb] at hi,pZ rfl _ _ m4,fun b hb=>?_⟩;obtain⟨cur,n1,n2,n3,n4,n5,n6⟩:=m5 b hb;refine⟨cur,n1,n2,n3,n4,by simpa using n5,?_⟩;simp only[List.length_set];refine aG.vY (fun v hv=>?_) hi n6;simp only[VR] at hv ⊢;exact⟨⟨none,0,sz⟩,cN,hv,trivial,trivial⟩
  ·exact h1.obj p x hp
 ·intro p p' x x' b hp N3 hb Kc;have YB:∀ q y,assoc (pH ((s.nx,(⟨e,sz,[]⟩:Ob))::s.heap) o ⟨ob.elem,ob.sz,ob.cells.set i (.bw s.nx 0 0)⟩) q=some y→∃ z,assoc ((s.nx,(⟨e,sz,[]⟩:Ob))::s.heap) q=some z:=fun q y hq=>by
   rw[eg] at hq;split at hq
   ·rename_i eo;subst eo;exact⟨ob,VT⟩
   ·exact⟨y,hq⟩
  obtain⟨z,hz⟩:=YB p x hp;obtain⟨z',Ur⟩:=YB p' x' N3;exact h1.inj p p' z z' b hz Ur hb Kc
theorem Le.up (n:Nat)(h:s.nx≤n):Le C s ⟨s.env,s.heap,n⟩:=by
 intro a w ⟨σ,hr⟩;exact⟨σ,hr.me,hr.tm,hr.os,hr.tape,hr.output,hr.size,hr.frame,hr.env,hr.obj,hr.inj,fun o ho=>hr.nx o (Nat.le_trans h ho),hr.fM,Nat.le_trans hr.low h,hr.new⟩
end
section
variable {P:Program}{C:Cx}{s:St}{ops:Array Oper}{ak:List (Nat×TI)}{Q:Exit→St→Prop}
def Dz (o:Oper):Bool:=match o.op with
 | .convert _ _ _=>true
 | _=>false
def cvS (ak:List (Nat×TI))(s:St)(o:Oper):Option St:=match o.op with
 | .convert t u x=>match oE ak s t u x with
  | some c=>some (s.put o.dst c)
  | none=>match ev s x,cY ak t,cY ak u with
   | some (.str b),some .str,some (.sl e)=>match cY ak e with
    | some (.int .u8)=>if b.size≤1000000 then some (s.put o.dst (.au (nw b) b.size)) else none
    | _=>none
   | _,_,_=>none
 | _=>none
theorem Ij (ht:ay P ak){o:Oper}{s':St}(hd:a9 C.nt o.dst=true)(h:cvS ak s o=some s'):p5 P C o s s':=by
 refine vH ht hd ?_;unfold cvS at h;unfold zt;split at h
 ·rename_i t u x ho;rw[ho];simp only;split at h
  ·rename_i c hc;rw[hc];exact h
  ·rename_i hc;rw[hc];simp only;split at h
   ·rename_i b e h1 h2 h3;rw[h1,h2,h3];simp only;split at h
    ·rename_i h4;rw[h4];simp only;split at h
     ·rename_i hb;rw[if_pos hb];exact h
     ·cases h
    ·cases h
   ·cases h
 ·cases h
def EN (ak:List (Nat×TI))(nt:Nat)(ops:Array Oper)(K:List Oper→St→Prop):List Oper→St→Prop
 | [],s=>K [] s
 | o::r,s=>if u9 o then
   match bM ops s o with
   | some false=>zP (EN ak nt ops K r) (fp ak nt ops s o)
   | _=>K (o::r) s
  else if Dz o then
   match bM ops s o with
   | some true=>if a9 nt o.dst=true then zP (EN ak nt ops K r) (cvS ak s o) else False
   | _=>zP (EN ak nt ops K r) (fp ak nt ops s o)
  else zP (EN ak nt ops K r) (fp ak nt ops s o)
theorem y7 (ht:ay P ak){K:St→Prop}:∀ (l:List Oper) (s:St),EN ak C.nt ops (ye P C ops K) l s→TL P C ops l s K
 | [],s,h=>TL.nil h
 | o::r,s,h=>by
  have fin:zP (EN ak C.nt ops (ye P C ops K) r) (fp ak C.nt ops s o)→TL P C ops (o::r) s K:=fun h=>by
   cases hs:fp ak C.nt ops s o with
   | none=>rw[hs] at h;exact h.elim
   | some s'=>rw[hs] at h;exact TL.step ht hs (y7 ht r s' h)
  unfold EN at h;split at h
  ·split at h
   ·exact fin h
   ·exact h
  ·split at h
   ·split at h
    ·rename_i hg;split at h
     ·rename_i hd
      cases hs:cvS ak s o with
      | none=>rw[hs] at h;exact h.elim
      | some s'=>rw[hs] at h;exact jl hg (Ij ht hd hs) (y7 ht r s' h)
     ·exact h.elim
    ·exact fin h
   ·exact fin h
theorem TL.yh (ht:ay P ak){K:St→Prop}{l:List Oper}(h:EN ak C.nt ops (ye P C ops K) l s):TL P C ops l s K:=y7 ht l s h
theorem T.yh (ht:ay P ak){id:Nat}{l:List Oper}(h:EN ak C.nt l.toArray (ye P C l.toArray (Q .normal)) l s):T P C (.region id l.toArray false) s Q:=T.region (TL.yh ht h)
attribute [simp] Dz cvS EN oE bytesOf cells?
end
end Go.Can
namespace Go.aT
open Go.Can
section
variable {ms:List Mx}{fs:List (ByteArray×List Pm)}{ps:List Pm}(K3:∀ m∈ms,cJ m.name)(LL:∀ f∈fs,cJ f.1)(Lt:∀ p∈ps,cJ p.name)
theorem gH (c:UInt8)(h:c∈ky∧c≠60∧c≠62∧c≠61∧c≠33∧c≠47):bN Any ⟨#[c]⟩ 1 1:=bN.sign h.1 h.2
theorem bN.Gn {s:ByteArray}(h:(bs s).all gD=true):bN Any s 0 (bs s).length:=by
 refine⟨Nat.le_refl _,fun r n _ hl=>?_⟩;generalize bs s=l at h
 induction l with
 | nil=>exact hl
 | cons c t ih=>
  simp only[List.all_cons,Bool.and_eq_true] at h;exact Lx.sp h.1 (ih h.2)
include K3 Lt in
theorem bN.rf {V:List ByteArray}(hV:∀ s∈V,cJ s){r:Rf}(h:BX ms ps V r):bN Stop (yL r) 10 186:=by
 have hn:cJ r.name:=by
  rcases h with ⟨m,h1,h2,_⟩ | ⟨p,h1,_,h2,_⟩
  ·rw[h2];exact K3 m h1
  ·rw[h2];exact Lt p h1
 have h0:=bN.nm hn;unfold yL
 cases hi:r.index with
 | none=>exact h0.mono yA yA
 | some e=>
  have he:eO V 1 e:=by
   rcases h with ⟨m,_,_,h3 | ⟨e',h3,_,h5⟩⟩ | ⟨_,_,_,_,h3⟩
   ·rw[h3.1] at hi;cases hi
   ·rw[h3] at hi;cases hi;exact h5
   ·rw[h3] at hi;cases hi
  have h1:=(h0.app (gH 91 Fk) fun r _=>Stop.cons _ Fk).app (bN.ex hV 1 e he) fun _ _=>trivial;have h2:=h1.app (gH 93 Fk) fun r _=>Stop.cons _ Fk;exact (h2.any Stop).mono (by simp[yi]) (by simp[yi])
theorem mD (l:List UInt8)(s:ByteArray)(hs:bs s=l++[32])(h:(∃ c t,l=c::t∧isLet c=true)∧l.all eF=true∧l.length≤16):bN Any s 1 17:=bN.word h.1 h.2.1 h.2.2 s hs
theorem sW:bN Any ⟨#[109,117,116,101,120,32]⟩ 1 17:=mD [109,117,116,101,120] _ rfl ⟨⟨_,_,rfl,by decide⟩,by decide,by decide⟩
include K3 Lt in
theorem bN.ar {V:List ByteArray}(hV:∀ s∈V,cJ s){p:Pm}{a:Ar}(h:ArW ms ps V p a):bN Stop (JJ a) 19 456:=by
 cases a with
 | ru r=>
  simp only[ArW] at h;exact (sW.app (bN.rf K3 Lt hV h.2) fun _ _=>trivial).mono yA yA
 | exp e=>
  simp only[ArW] at h;exact (bN.ex hV 2 e h.2).mono (by simp[yi]) (by simp[yi])
theorem xP:bN Any ⟨#[44,32]⟩ 1 2:=⟨Nat.le_refl _,fun _ _ _ hl=>Lx.uT Fk Fk (Lx.sp Fk hl)⟩
theorem BM (l:List Ar)(r:List UInt8)(hr:Stop r):Stop (bs (sd false l)++r):=by
 cases l with
 | nil=>exact hr
 | cons a t=>
  rw[sd];simp only[Bool.false_eq_true,if_false,fz];exact Stop.cons _ Fk
include K3 Lt in
theorem bN.aR {V:List ByteArray}(hV:∀ s∈V,cJ s):∀ (first:Bool) {gp:List Pm} {l:List Ar},gZ ms ps V gp l→bN Stop (sd first l) (20*l.length) (458*l.length)
 | _,[],[],_=>bN.nil _
 | first,p::gp,a::l,h=>by
  simp only[gZ] at h;have h1:=(bN.ar K3 Lt hV h.1).app (bN.aR hV false h.2) fun r hr=>BM l r hr;rw[Go.aT.sd,ByteArray.append_assoc]
  cases first with
  | true=>exact (((bN.nil Any).app h1 fun _ _=>trivial)).mono RP RP
  | false=>exact ((xP.app h1 fun _ _=>trivial)).mono RP RP
 | _,[],_::_,h=>h.elim
 | _,_::_,[],h=>h.elim
include K3 Lt in
theorem bN.ars {V:List ByteArray}(hV:∀ s∈V,cJ s){gp:List Pm}{l:List Ar}(h:gZ ms ps V gp l):bN Any (qe l) (2+20*l.length) (2+458*l.length):=by
 have h1:=(gH 40 Fk).app (bN.aR K3 Lt hV true h) fun _ _=>trivial;have h2:=h1.app (gH 41 Fk) fun r _=>Stop.cons _ Fk;exact h2.mono yA yA
theorem uz:bN Any vS 1 17:=mD [118,97,114] _ rfl ⟨⟨_,_,rfl,by decide⟩,by decide,by decide⟩
theorem Hf:bN Any IU 1 17:=mD [103,111] _ rfl ⟨⟨_,_,rfl,by decide⟩,by decide,by decide⟩
theorem Cp:bN Any sX 1 17:=mD [108,111,99,107] _ rfl ⟨⟨_,_,rfl,by decide⟩,by decide,by decide⟩
theorem yy:bN Any lR 1 17:=mD [117,110,108,111,99,107] _ rfl ⟨⟨_,_,rfl,by decide⟩,by decide,by decide⟩
theorem He:bN Any IT 1 17:=mD [105,102] _ rfl ⟨⟨_,_,rfl,by decide⟩,by decide,by decide⟩
theorem AK:bN Any uy 1 17:=mD [119,104,105,108,101] _ rfl ⟨⟨_,_,rfl,by decide⟩,by decide,by decide⟩
theorem yz:bN Any Cq 1 3:=⟨Nat.le_refl _,fun _ _ _ hl=>Lx.sp Fk (Lx.one Fk j5 (Lx.sp Fk hl))⟩
theorem nO:bN Any gQ 1 1:=gH 59 Fk
theorem vT:bN Any nQ 1 3:=⟨Nat.le_refl _,fun _ _ _ hl=>Lx.sp Fk (Lx.uT Fk Fk (Lx.sp Fk hl))⟩
theorem oW:bN Any jt 1 1:=gH 125 Fk
theorem Cr:bN Any vU 2 8:=⟨Nat.le_refl _,fun r n _ hl=>by
 refine Lx.sp Fk ?_;have h:=Tok.name (s:=[101,108,115,101]) ⟨_,_,rfl,by decide⟩ Fk (.inl Fk) (32::123::10::r) (n+1) (Stop.cons _ Fk) (Lx.sp Fk (Lx.uT Fk Fk (Lx.sp Fk hl)));exact h⟩
theorem EX:bN Any EY 2 7:=⟨Nat.le_refl _,fun r n _ hl=>by
 have h:=Tok.name (s:=[114,101,116,117,114,110]) ⟨_,_,rfl,by decide⟩ Fk (.inl Fk) (59::r) (n+1) (Stop.cons _ Fk) (Lx.uT Fk Fk hl);exact h⟩
theorem bN.st {S:List UInt8→Prop}{a b:ByteArray}{k k' m m':Nat}(h:bN Stop a k m)(h':bN S b k' m')(c:UInt8)(t:List UInt8)(hb:bs b=c::t)(hc:eF c=false∧c≠61∧c≠47):bN S (a++b) (k' + k) (m+m'):=
 h.app h' fun r _=>by rw[hb];exact Stop.cons _ hc
theorem bN.an {S:List UInt8→Prop}{a b:ByteArray}{k k' m m':Nat}(h:bN Any a k m)(h':bN S b k' m'):bN S (a++b) (k' + k) (m+m'):=h.app h' fun _ _=>trivial
def fA (d:Nat)(s:ByteArray):Prop:=(bs s).all gD=true∧(bs s).length+d≤3
theorem fA.more {d:Nat}{s:ByteArray}(h:fA (d+1) s):fA d (s++nN):=by
 refine⟨by rw[fz,List.all_append,h.1];rfl,?_⟩;rw[fz,List.length_append];have:=h.2;show _+1+d≤3;omega
theorem fA.seg {d:Nat}{s:ByteArray}(h:fA d s):bN Any s 0 3:=(bN.Gn h.1).mono (Nat.le_refl _) (by have:=h.2;omega)
include K3 Lt LL
theorem bN.lines:(∀ s:Sm,∀ d V m9,(∀ x∈V,cJ x)→fA d m9→dh ms fs ps d V s→(∀ x,di s=[x]→cJ x)→bN Any (ju m9 s) (dB s) (64*dB s-10))∧
  (∀ l:List Sm,∀ d V m9,(∀ x∈V,cJ x)→fA d m9→ck ms fs ps d V l→bN Any (g6 m9 l) (bz l) (64*bz l)):=by
 have PV:∀ k,k<24→cJ (eA k):=by
  intro k hk;refine⟨⟨118,_,fh k,by decide⟩,?_,by rw[fh];simp⟩;rw[fh];have:∀ k,k<24→List.all [118,UInt8.ofNat (97+k % 26),UInt8.ofNat (97+k / 26 % 26)] eF=true:=by decide
  exact this k hk
 have Nv:∀ s:Sm,2≤dB s:=by intro s;cases s<;>simp only[dB]<;>omega
 have A1:∀ (s:ByteArray) (e:Ex) d V m9,(∀ x∈V,cJ x)→fA d m9→dh ms fs ps d V (.fN s e)→bN Any (ju m9 (.fN s e)) (dB (.fN s e)) (64*dB (.fN s e)-10):=by
  intro s e d V m9 hV ht hw;simp only[dh] at hw;obtain⟨⟨k,hk,rfl⟩,_,he⟩:=hw;simp only[ju,dB];exact ((((uz.an (bN.nm (PV k hk))).st yz 32 _ rfl Fk).an (bN.ex hV 2 e he)).st nO 59 _ rfl Fk).mono (by simp[yi]) (by simp[yi])
 have A2:∀ (s:ByteArray) (e:Ex) d V m9,(∀ x∈V,cJ x)→fA d m9→dh ms fs ps d V (.gz s e)→bN Any (ju m9 (.gz s e)) (dB (.gz s e)) (64*dB (.gz s e)-10):=by
  intro s e d V m9 hV ht hw;simp only[dh] at hw;simp only[ju,dB];exact ((((bN.nm (hV s hw.1)).st yz 32 _ rfl Fk).an (bN.ex hV 2 e hw.2)).st nO 59 _ rfl Fk).mono (by simp[yi]) (by simp[yi])
 have A3:∀ (g:Bool) (s:ByteArray) (l:List Ar) d V m9,(∀ x∈V,cJ x)→fA d m9→dh ms fs ps d V (.dm g s l)→bN Any (ju m9 (.dm g s l)) (dB (.dm g s l)) (64*dB (.dm g s l)-10):=by
  intro g s l d V m9 hV ht hw;simp only[dh] at hw;obtain⟨gp,h1,h2⟩:=hw;have hn:=bN.nm (LL _ h1);have ha:=bN.ars K3 Lt hV h2;have hb:bs (qe l)=40::(bs (sd true l)++[41]):=by simp only[qe,fz];rfl
  have hg:bN Stop (if g=true then IU++s else s) 2 33:=by
   cases g with
   | true=>exact (Hf.an hn).mono yA yA
   | false=>exact hn.mono yA yA
  simp only[ju,dB];exact ((hg.st ha 40 _ hb Fk).an nO).mono yA yA
 have A4:∀ (u:Bool) (r:Rf) d V m9,(∀ x∈V,cJ x)→fA d m9→dh ms fs ps d V (.cR u r)→bN Any (ju m9 (.cR u r)) (dB (.cR u r)) (64*dB (.cR u r)-10):=by
  intro u r d V m9 hV ht hw;simp only[dh] at hw;have hr:=bN.rf K3 Lt hV hw;have hg:bN Any (if u=true then lR else sX) 1 17:=by
   cases u with
   | true=>exact yy
   | false=>exact Cp
  simp only[ju,dB];exact ((hg.an hr).st nO 59 _ rfl Fk).mono yA yA
 have A5:∀ (e:Ex) (th el:List Sm),(∀ d V m9,(∀ x∈V,cJ x)→fA d m9→ck ms fs ps d V th→bN Any (g6 m9 th) (bz th) (64*bz th))→(∀ d V m9,(∀ x∈V,cJ x)→fA d m9→ck ms fs ps d V el→bN Any (g6 m9 el) (bz el) (64*bz el))→∀ d V m9,(∀ x∈V,cJ x)→fA d m9→dh ms fs ps d V (.jS e th el)→bN Any (ju m9 (.jS e th el)) (dB (.jS e th el)) (64*dB (.jS e th el)-10):=by
  intro e th el i1 i2 d V m9 hV ht hw
  cases d with
  | zero=>simp[dh] at hw
  | succ d=>
   simp only[dh] at hw;have h1:=i1 d V _ hV ht.more hw.2.1;have h2:=i2 d V _ hV ht.more hw.2.2;have h3:=((((He.an (bN.ex hV 2 e hw.1)).st vT 32 _ rfl Fk).an h1).an ht.seg).an oW;simp only[ju,dB];split
   ·exact (h3.an (bN.nil Any)).mono O2 O2
   ·exact (h3.an (((Cr.an h2).an ht.seg).an oW)).mono O2 O2
 have A6:∀ (e:Ex) (th:List Sm),(∀ d V m9,(∀ x∈V,cJ x)→fA d m9→ck ms fs ps d V th→bN Any (g6 m9 th) (bz th) (64*bz th))→∀ d V m9,(∀ x∈V,cJ x)→fA d m9→dh ms fs ps d V (.cb e th)→bN Any (ju m9 (.cb e th)) (dB (.cb e th)) (64*dB (.cb e th)-10):=by
  intro e th i1 d V m9 hV ht hw
  cases d with
  | zero=>simp[dh] at hw
  | succ d=>
   simp only[dh] at hw;have h1:=i1 d V _ hV ht.more hw.2;have h3:=((((AK.an (bN.ex hV 2 e hw.1)).st vT 32 _ rfl Fk).an h1).an ht.seg).an oW;simp only[ju,dB];exact h3.mono O2 O2
 have A8:∀ (s:Sm) (r:List Sm),(∀ d V m9,(∀ x∈V,cJ x)→fA d m9→dh ms fs ps d V s→bN Any (ju m9 s) (dB s) (64*dB s-10))→(∀ d V m9,(∀ x∈V,cJ x)→fA d m9→ck ms fs ps d V r→bN Any (g6 m9 r) (bz r) (64*bz r))→∀ d V m9,(∀ x∈V,cJ x)→fA d m9→ck ms fs ps d V (s::r)→bN Any (g6 m9 (s::r)) (bz (s::r)) (64*bz (s::r)):=by
  intro s r i1 i2 d V m9 hV ht hw;simp only[ck] at hw;have T6:∀ x∈V++di s,cJ x:=by
   intro x hx;rcases List.mem_append.1 hx with hx | hx
   ·exact hV x hx
   ·cases s<;>simp only[di,List.mem_singleton,List.not_mem_nil] at hx;subst hx;have:=hw.1;simp only[dh] at this;obtain⟨⟨k,hk,rfl⟩,_⟩:=this;exact PV k hk
  have h1:=i1 d V m9 hV ht hw.1;have h2:=i2 d _ m9 T6 ht hw.2;have hp:=Nv s;have NA:bN Any tNl 0 1:=bN.Gn Fk;simp only[g6,bz];exact (((ht.seg.an h1).an NA).an h2).mono yA yA
 have A7:∀ d V m9,(∀ x∈V,cJ x)→fA d m9→dh ms fs ps d V .ia→bN Any (ju m9 .ia) (dB .ia) (64*dB .ia-10):=by
  intro d V m9 _ _ _;simp only[ju,dB];exact EX.mono yA yA
 have A0:∀ d V m9,(∀ x∈V,cJ x)→fA d m9→ck ms fs ps d V []→bN Any (g6 m9 []) (bz []) (64*bz []):=by
  intro d V m9 _ _ _;simp only[g6,bz];exact bN.nil _
 refine⟨fun s d V m9 h1 h2 h3 _=>?_,fun l=>?_⟩
 ·exact Sm.rec (motive_1:=fun s=>∀ d V m9,(∀ x∈V,cJ x)→fA d m9→dh ms fs ps d V s→bN Any (ju m9 s) (dB s) (64*dB s-10)) (motive_2:=fun l=>∀ d V m9,(∀ x∈V,cJ x)→fA d m9→ck ms fs ps d V l→bN Any (g6 m9 l) (bz l) (64*bz l)) A1 A2 A3 A4 A5 A6 A7 A0 A8 s d V m9 h1 h2 h3
 ·exact Sm.rec_1 (motive_1:=fun s=>∀ d V m9,(∀ x∈V,cJ x)→fA d m9→dh ms fs ps d V s→bN Any (ju m9 s) (dB s) (64*dB s-10)) (motive_2:=fun l=>∀ d V m9,(∀ x∈V,cJ x)→fA d m9→ck ms fs ps d V l→bN Any (g6 m9 l) (bz l) (64*bz l)) A1 A2 A3 A4 A5 A6 A7 A0 A8 l
end
theorem bN.nT {n:Int}(h : -9223372036854775807≤n∧n≤9223372036854775807):bN Stop (jC n) 2 20:=by
 unfold Go.aT.jC;split
 ·exact ((gH 45 Fk).an (bN.dig (n:=(-n).toNat) yA)).mono yA yA
 ·exact (bN.dig (n:=n.toNat) yA).mono yA yA
theorem lU:bN Any ⟨#[59,10]⟩ 1 2:=⟨Nat.le_refl _,fun _ _ _ hl=>Lx.uT Fk Fk (Lx.sp Fk hl)⟩
theorem bN.gl {g:Gl}(h:cJ g.name)(hi : -2≤g.init∧g.init≤2):bN Any (GL g) 6 64:=by
 unfold GL;split
 ·exact (((uz.an (bN.nm h)).app (bN.nil Stop) fun r hr=>hr).st lU 59 _ rfl Fk).mono yA yA
 ·have h1:bN Stop (Cq++jC g.init) 3 23:=(yz.an (bN.nT yA)).mono yA yA;exact (((uz.an (bN.nm h)).st h1 32 _ rfl Fk).st lU 59 _ rfl Fk).mono yA yA
theorem bN.mx {m:Mx}(h:cJ m.name)(hi:m.size≤3):bN Any (FF m) 7 64:=by
 unfold FF;have h0:bN Any ((if m.re=true then ⟨#[114]⟩ else ⟨#[]⟩)++⟨#[109,117,116,101,120,32]⟩) 1 17:=by
  cases m.re with
  | true=>exact mD [114,109,117,116,101,120] _ Fk ⟨⟨_,_,rfl,by decide⟩,by decide,by decide⟩
  | false=>exact mD [109,117,116,101,120] _ Fk ⟨⟨_,_,rfl,by decide⟩,by decide,by decide⟩
 generalize (if m.re=true then (⟨#[114]⟩:ByteArray) else ⟨#[]⟩)++⟨#[109,117,116,101,120,32]⟩=pre at h0 ⊢;split
 ·exact (((h0.an (bN.nm h)).app (bN.nil Stop) fun r hr=>hr).st lU 59 _ rfl Fk).mono yA yA
 ·have h1:bN Any (⟨#[91]⟩++jC m.size++⟨#[93]⟩) 4 22:=(((gH 91 Fk).an (bN.nT yA)).st (gH 93 Fk) 93 _ rfl Fk).mono yA yA;exact (((h0.an (bN.nm h)).st h1 91 _ (by rw[fz,fz];rfl) Fk).an lU).mono yA yA
theorem A9 (l:List Pm)(r:List UInt8)(hr:Stop r):Stop (bs (qZ false l)++r):=by
 cases l with
 | nil=>exact hr
 | cons a t=>
  rw[qZ];simp only[Bool.false_eq_true,if_false,fz];exact Stop.cons _ Fk
theorem bN.pR:∀ (first:Bool) {l:List Pm},(∀ p∈l,cJ p.name)→bN Stop (qZ first l) (3*l.length) (40*l.length)
 | _,[],_=>bN.nil _
 | first,p::l,h=>by
  have hn:=(bN.nm (h p List.mem_cons_self)).app (bN.pR false fun q hq=>h q (List.mem_cons_of_mem _ hq)) fun r hr=>A9 l r hr;have hm:bN Any (if p.mutex=true then ⟨#[109,117,116,101,120,32]⟩ else ⟨#[]⟩) 1 17:=by
   cases p.mutex with
   | true=>exact sW
   | false=>exact (bN.nil Any).mono yA yA
  have hf:bN Any (if first=true then ⟨#[]⟩ else ⟨#[44,32]⟩) 1 2:=by
   cases first with
   | true=>exact (bN.nil Any).mono yA yA
   | false=>exact xP
  rw[Go.aT.qZ];have h1:=(hf.an hm).an hn;rw[← ByteArray.append_assoc] at h1;exact h1.mono RP RP
theorem bN.cat {α:Type}(f:α→ByteArray)(k:α→Nat):∀ {l:List α},(∀ a∈l,bN Any (f a) (k a) (64*k a))→bN Any (iw f l) (l.map k).sum (64*(l.map k).sum)
 | [],_=>bN.nil _
 | a::r,h=>by
  rw[iw];have h1:=(h a List.mem_cons_self).an (bN.cat f k fun b hb=>h b (List.mem_cons_of_mem _ hb));exact h1.mono Lv Lv
theorem zS (s:ByteArray)(h:(match bs s with | c::_=>isLet c | []=>false)=true∧(bs s).all eF=true∧(bs s).length≤16):cJ s:=by
 refine⟨?_,h.2⟩;have h1:=h.1
 cases hb:bs s with
 | nil=>rw[hb] at h1;cases h1
 | cons c t=>
  rw[hb] at h1;exact⟨c,t,rfl,h1⟩
theorem nG_ok:∀ s∈nG,cJ s:=fun s hs=>zS s ((by decide:∀ s∈nG,(match bs s with | c::_=>isLet c | []=>false)=true∧(bs s).all eF=true∧(bs s).length≤16) s hs)
theorem nM_ok:∀ s∈nM,cJ s:=fun s hs=>zS s ((by decide:∀ s∈nM,(match bs s with | c::_=>isLet c | []=>false)=true∧(bs s).all eF=true∧(bs s).length≤16) s hs)
theorem nF_ok:∀ s∈nF,cJ s:=fun s hs=>zS s ((by decide:∀ s∈nF,(match bs s with | c::_=>isLet c | []=>false)=true∧(bs s).all eF=true∧(bs s).length≤16) s hs)
theorem nP_ok:∀ s∈nP,cJ s:=fun s hs=>zS s ((by decide:∀ s∈nP,(match bs s with | c::_=>isLet c | []=>false)=true∧(bs s).all eF=true∧(bs s).length≤16) s hs)
theorem u5 {α:Type}{f:α→ByteArray}{l:List α}{ns:List ByteArray}(h:∀ s∈l.map f,s∈ns)(hn:∀ s∈ns,cJ s):∀ a∈l,cJ (f a):=fun _a ha=>hn _ (h _ (List.mem_map_of_mem ha))
theorem jg.ng {p:Pg}(h:jg p):∀ g∈p.gs,cJ g.name:=by
 obtain⟨k,_,hk⟩:=h.gn;exact u5 (fun s hs=>by rw[hk] at hs;exact List.mem_of_mem_take hs) nG_ok
theorem jg.nm {p:Pg}(h:jg p):∀ g∈p.ms,cJ g.name:=by
 obtain⟨k,_,_,hk⟩:=h.mn;exact u5 (fun s hs=>by rw[hk] at hs;exact List.mem_of_mem_take hs) nM_ok
theorem jg.nf {p:Pg}(h:jg p):∀ g∈p.fs,cJ g.name:=by
 obtain⟨k,_,_,hk⟩:=h.fn;exact u5 (fun s hs=>by rw[hk] at hs;exact List.mem_of_mem_take hs) nF_ok
theorem jg.np {p:Pg}(h:jg p):∀ f∈p.fs,∀ q∈f.params,cJ q.name:=fun f hf=>by
 obtain⟨k,_,hk⟩:=h.pn f hf;exact u5 (fun s hs=>by rw[hk,List.mem_reverse] at hs;exact List.mem_of_mem_take hs) nP_ok
theorem jg.nv {p:Pg}(h:jg p):∀ f∈p.fs,∀ s∈ij p.gs f.params,cJ s:=fun f hf s hs=>by
 rcases rj hs with hs | hs
 ·rw[List.mem_map] at hs;obtain⟨g,hg,rfl⟩:=hs;exact h.ng g hg
 ·rw[List.mem_map] at hs;obtain⟨g,hg,rfl⟩:=hs;exact h.np f hf g hg
theorem bN.fu {p:Pg}(h:jg p){f:Fu}(hf:f∈p.fs):bN Any (BV f) (12+bz f.body) (64*(12+bz f.body)):=by
 have hb:=(bN.lines (ms:=p.ms) (fs:=p.fs.map fun f=>(f.name,f.params)) (ps:=f.params) h.nm (fun x hx=>by
  rw[List.mem_map] at hx;obtain⟨g,hg,rfl⟩:=hx;exact h.nf g hg) (h.np f hf)).2 f.body 2 (ij p.gs f.params) nN (h.nv f hf) ⟨by decide,by decide⟩ (h.bd f hf)
 obtain⟨k,hk,Pk⟩:=h.pn f hf;have hlen:f.params.length≤2:=by
  have:=congrArg List.length Pk;simp[nP] at this;omega
 have OW:bN Any ⟨#[102,117,110,99,32]⟩ 1 17:=mD [102,117,110,99] _ rfl ⟨⟨_,_,rfl,by decide⟩,by decide,by decide⟩;have ho:bN Any ⟨#[41,32,123,10]⟩ 2 4:=⟨Nat.le_refl _,fun _ _ _ hl=>Lx.uT Fk Fk (Lx.sp Fk (Lx.uT Fk Fk (Lx.sp Fk hl)))⟩;have hc:bN Any ⟨#[125,10]⟩ 1 2:=⟨Nat.le_refl _,fun _ _ _ hl=>Lx.uT Fk Fk (Lx.sp Fk hl)⟩;unfold BV;exact ((((((OW.an (bN.nm (h.nf f hf))).st (gH 40 Fk) 40 _ rfl Fk).an (bN.pR true (h.np f hf))).st ho 41 _ rfl Fk).an hb).an hc).mono yA yA
theorem AL {α:Type}(l:List α)(c:Nat):(l.map fun _=>c).sum=c*l.length:=by
 induction l with
 | nil=>simp
 | cons _ r ih=>simp[ih,Nat.mul_add];omega
theorem sum_add {α:Type}(l:List α)(c:Nat)(f:α→Nat):(l.map fun a=>c+f a).sum=c*l.length+(l.map f).sum:=by
 induction l with
 | nil=>simp
 | cons a r ih=>simp[ih,Nat.mul_add];omega
theorem HI {p:Pg}(h:jg p):Lx (bs (Ba p)) 4000∧(bs (Ba p)).length≤262144:=by
 have h1:=bN.cat GL (fun _=>6) (l:=p.gs) fun g hg=>(bN.gl (h.ng g hg) (h.gi g hg)).mono (Nat.le_refl _) yA;have h2:=bN.cat FF (fun _=>7) (l:=p.ms) fun g hg=>(bN.mx (h.nm g hg) (h.mz g hg).1).mono (Nat.le_refl _) yA;have h3:=bN.cat BV (fun f=>12+bz f.body) (l:=p.fs) fun g hg=>bN.fu h hg;rw[AL] at h1 h2;rw[sum_add] at h3;have hw:=h.wt;obtain⟨k1,N6,e1⟩:=h.gn;obtain⟨k2,_,MX,e2⟩:=h.mn;obtain⟨k3,_,Wk,e3⟩:=h.fn;have l1:=congrArg List.length e1;have l2:=congrArg List.length e2;have l3:=congrArg List.length e3;simp[nG] at l1;simp[nM] at l2;simp[nF] at l3;obtain⟨hb,hl⟩:=(h1.an h2).an h3;refine⟨?_,?_⟩
 ·have:=hl [] 0 trivial (.nil 0);rw[List.append_nil] at this;exact this.mono yA
 ·unfold Ba;omega
end Go.aT
namespace Go.Proofs.YtlkmbdfhdknlgaaGreatDoor
open Go.Can Go.aT
theorem gx (x y:ByteArray):jY .eql x y=some (.bool (decide (x=y))):=by
 have h:(x.toList == y.toList)=decide (x=y):=by
  rw[ByteArray.toList_eq,ByteArray.toList_eq,Bool.eq_iff_iff];simp only[beq_iff_eq,decide_eq_true_eq,Array.toList_inj];exact⟨fun h=>ByteArray.ext h,fun h=>by rw[h]⟩
 simp only[jY,h]
theorem iF (x y:ByteArray):jY .neq x y=some (.bool (!decide (x=y))):=by
 have h:=gx x y;simp only[jY,Option.some.injEq,CV.bool.injEq] at h ⊢;rw[h]
theorem aq (x y:ByteArray)(h:x.size+y.size≤9223372036854775807):jY .add x y=some (.str (x++y)):=by
 simp only[jY,if_pos h]
theorem Dx (c:UInt8):isLet c=((decide ((97:Int)≤c.toNat) && decide ((c.toNat:Int)≤122)) || (decide ((65:Int)≤c.toNat) && decide ((c.toNat:Int)≤90)) || ((c.toNat:Int) == 95)):=by
 rw[Bool.eq_iff_iff];simp only[isLet,Bool.or_eq_true,Bool.and_eq_true,decide_eq_true_eq,beq_iff_eq];omega
theorem Dy (c:UInt8):cB c=(decide ((48:Int)≤c.toNat) && decide ((c.toNat:Int)≤57)):=by
 rw[Bool.eq_iff_iff];simp only[cB,Bool.and_eq_true,decide_eq_true_eq];omega
theorem j6 (c:UInt8):ae Tryz.prog 95 [.int .u8 c.toNat] (.bool (isLet c)):=by
 rw[Dx];generalize (c.toNat:Int)=n;refine ae.aD af Tryz.func95 rfl lz (by simp[Tryz.ntmps95]) rfl fun C hC xJ=>?_;rw[Tryz.ntmps95] at hC;apply ah;simp[hC];by_cases h1:97≤n
 ·by_cases h2:n≤122
  ·apply ah;simp[hC,h1,h2];apply T.ret;apply aa.here;simp[Tryz.results95]
  ·have h3:65≤n:=by omega
   have h4:¬ n≤90:=by omega
   apply ah;simp[hC,h1,h2,h3,h4];apply T.ret;apply aa.here;simp[Tryz.results95]
 ·by_cases h3:65≤n
  ·by_cases h4:n≤90
   ·apply ah;simp[hC,h1,h3,h4];apply T.ret;apply aa.here;simp[Tryz.results95]
   ·apply ah;simp[hC,h1,h3,h4];apply T.ret;apply aa.here;simp[Tryz.results95]
  ·apply ah;simp[hC,h1,h3];apply T.ret;apply aa.here;simp[Tryz.results95]
theorem kf (c:UInt8):ae Tryz.prog 96 [.int .u8 c.toNat] (.bool (cB c)):=by
 rw[Dy];generalize (c.toNat:Int)=n;refine ae.aD af Tryz.func96 rfl lz (by simp[Tryz.ntmps96]) rfl fun C hC xJ=>?_;rw[Tryz.ntmps96] at hC;apply ah;simp[hC];by_cases h1:48≤n
 ·apply ah;simp[hC,h1];apply T.ret;apply aa.here;simp[Tryz.results96]
 ·apply ah;simp[hC,h1];apply T.ret;apply aa.here;simp[Tryz.results96]
def hasB (l:List ByteArray)(s:ByteArray):Bool:=l.any fun x=>decide (x=s)
theorem vb (l:List ByteArray)(s:ByteArray)(hl:l.length≤1000):ae Tryz.prog 118 [strs l,.str s] (.bool (hasB l s)):=by
 refine ae.aD af Tryz.func118 rfl lz (by simp[Tryz.ntmps118]) rfl fun C hC xJ=>?_;rw[Tryz.ntmps118] at hC;apply ah;simp[hC];apply aL;simp[hC];apply T.block;refine T.aI (fun m st=>∃ i:Nat,m=l.length-i∧i≤l.length∧hasB l s=hasB (l.drop i) s∧st=⟨[(5,I i),(0,strs l),(1,.str s)],[],0⟩) (n:=l.length) ?_ ?_
 ·refine aa.le (Le.env [5,0,1]) (aa.here ⟨0,by omega,by omega,by simp,?_⟩);simp
 ·rintro n st ⟨i,rfl,hi,X5,rfl⟩;by_cases nr:i<l.length
  ·have oy:=gS nr;have hw:=cm ((i:Int)+1) yA yA;apply aL;simp[hC,strs,nr];refine gF ?_;simp;apply fw;apply ah;simp[hC,nr,oy,gx];refine T.aX rfl (fun h=>?_) (fun h=>?_)
   ·have he:l.getD i eS=s:=by simpa [nr] using h
    apply ah;simp[hC];apply T.ret;apply aa.here;have hb:hasB l s=true:=by
     unfold hasB;rw[List.any_eq_true];exact⟨s,he ▸ gV nr eS,by simp⟩
    simp[Tryz.results118,hb]
   ·have he:¬ l.getD i eS=s:=by simpa [nr] using h
    apply T.skip;simp;apply a8;simp[hC,hw];refine⟨l.length-(i+1),by omega,?_⟩;refine aa.le (Le.env [5,0,1]) (aa.here ⟨i+1,rfl,by omega,?_,?_⟩)
    ·rw[X5,List.drop_eq_getElem_cons nr];have e2:l[i]=l.getD i eS:=by simp[nr]
     simp only[hasB,List.any_cons,e2,he,decide_false,Bool.false_or]
    ·simp
  ·have CW:i=l.length:=by omega
   have hb:hasB l s=false:=by rw[X5,CW,List.drop_length];rfl
   apply aL;simp[hC,strs,nr];refine aU ?_;simp;apply T.exit;simp;apply ah;simp[hC];apply T.ret;apply aa.here;simp[Tryz.results118,hb]
end Go.Proofs.YtlkmbdfhdknlgaaGreatDoor
