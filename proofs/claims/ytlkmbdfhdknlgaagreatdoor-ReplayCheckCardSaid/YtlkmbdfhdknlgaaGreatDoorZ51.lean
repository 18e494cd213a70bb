/- Calls that may turn maps and leave new objects, on a part of -/
import Derived.Test.YtlkmbdfhdknlgaaGreatDoorZ50
import Derived.Test.YtlkmbdfhdknlgaaGreatDoorZ46
import Derived.Test.YtlkmbdfhdknlgaaGreatDoorRows
import Derived.Deep.Matrix
import Derived.Deep.Fields
import Derived.OpenShut
namespace Go.Can
open Go.RowKit
section
variable {P:Program}{C:Cx}{σ:Nat→Option OB}{s:St}{a:Act}{w:World}{ops:Array Oper}{ak:List (Nat×TI)}
theorem EH.ret {f:FuncId}{args:List CV}{H:List (Nat×Ob)}{n:Nat}{ks:List Nat}{R R':CV→St→Prop}(h:EH P ak f args H n ks R)(hR:∀ r s,R r s→R' r s):EH P ak f args H n ks R':=by
 obtain⟨fn,c,hf,hb,KV,hl,hT⟩:=h;refine⟨fn,c,hf,hb,KV,hl,fun C hC xJ hM=>T.mono (hT C hC xJ hM) fun e s q=>?_⟩;have key:∀ (C:Cx) s,aa C (fun s'=>∃ r,bf ak fn s'=some r∧R r s') s→aa C (fun s'=>∃ r,bf ak fn s'=some r∧R' r s') s:=fun C s ⟨s',⟨r,q1,q2⟩,hl⟩=>⟨s',⟨r,q1,hR r s' q2⟩,hl⟩
 cases e with
 | normal=>exact key C s q
 | ret=>exact key C s q
 | _=>exact q
end
end Go.Can
namespace Go.Can
mutual
def ld:CV→CV
 | .ag=>.au [] 0
 | .agg cs=>.agg (mW cs)
 | .au cs n=>.au (mW cs) n
 | .db cs=>.db (mW cs)
 | .int k n=>.int k n
 | .bool b=>.bool b
 | .str s=>.str s
 | .cc cs=>.cc cs
 | .bg=>.bg
 | .fn f cs=>.fn f cs
 | .iface f cs=>.iface f cs
 | .bT=>.bT
 | .iter k s p=>.iter k s p
 | .mp k es=>.mp k es
 | .bw o f n=>.bw o f n
 | .ai o f=>.ai o f
 | .any=>.any
def mW:List CV→List CV
 | []=>[]
 | c::cs=>ld c::mW cs
end
theorem zM (c:CV):one (ld c)=one c:=by cases c<;>simp only[ld,one]
theorem wN:∀ cs:List CV,(mW cs).all one=cs.all one
 | []=>by simp only[mW]
 | c::cs=>by simp only[mW,List.all_cons,zM,wN cs]
theorem C6 {cs:List CV}(h:cs=[]):mW cs=[]:=by rw[h,mW]
mutual
theorem bK.ld {w:World}{F:Nat→Prop}:∀ (c:CV) (v:Value),bK w F c v→bK w F (ld c) v
 | .ag,v,h=>by
  simp only[bK] at h;subst h;simp only[Can.ld,bK];exact⟨none,0,rfl,Nat.le_refl _,Nat.zero_le _,.inl ⟨trivial,trivial⟩⟩
 | .agg cs,v,h=>by
  simp only[bK] at h;obtain⟨vs,h1,h2,h3⟩:=h;simp only[Can.ld,bK];exact⟨vs,h1,bt.ld cs vs h2,by rw[wN];exact h3⟩
 | .au cs n,v,h=>by
  simp only[bK] at h;obtain⟨A,cap,h1,h2,h3,h4⟩:=h;simp only[Can.ld,bK];refine⟨A,cap,h1,h2,h3,?_⟩;rcases h4 with ⟨h4,h5⟩ | ⟨ad,h4,h5⟩
  ·exact .inl ⟨h4,C6 h5⟩
  ·exact .inr ⟨ad,h4,ej.ld cs ad h5⟩
 | .db cs,v,h=>by
  simp only[bK] at h;obtain⟨vs,h1,h2⟩:=h;simp only[Can.ld,bK];exact⟨vs,h1,bt.ld cs vs h2⟩
 | .int _ _,_,h=>by simpa only[Can.ld] using h
 | .bool _,_,h=>by simpa only[Can.ld] using h
 | .str _,_,h=>by simpa only[Can.ld] using h
 | .cc _,_,h=>by simpa only[Can.ld] using h
 | .bg,_,h=>by simpa only[Can.ld] using h
 | .fn _ _,_,h=>by simpa only[Can.ld] using h
 | .iface _ _,_,h=>by simpa only[Can.ld] using h
 | .bT,_,h=>by simpa only[Can.ld] using h
 | .iter _ _ _,_,h=>by simpa only[Can.ld] using h
 | .mp _ _,_,h=>by simpa only[Can.ld] using h
 | .bw _ _ _,_,h=>by simpa only[Can.ld] using h
 | .ai _ _,_,h=>by simpa only[Can.ld] using h
 | .any,_,h=>by simpa only[Can.ld] using h
theorem bt.ld {w:World}{F:Nat→Prop}:∀ (cs:List CV) (vs:List Value),bt w F cs vs→bt w F (mW cs) vs
 | [],_,h=>by simpa only[mW] using h
 | c::cs,vs,h=>by
  simp only[bt] at h;obtain⟨v,r,h1,h2,h3⟩:=h;simp only[mW,bt];exact⟨v,r,h1,bK.ld c v h2,bt.ld cs r h3⟩
theorem ej.ld {w:World}{F:Nat→Prop}:∀ (cs:List CV) (ad:Addr),ej w F cs ad→ej w F (mW cs) ad
 | [],_,_=>by simp only[mW,ej]
 | c::cs,ad,h=>by
  simp only[ej] at h;obtain⟨⟨u,h1,h2,h3⟩,h4,h5⟩:=h;simp only[mW,ej];exact⟨⟨u,h1,h2,bK.ld c u h3⟩,by rw[zM];exact h4,ej.ld cs _ h5⟩
end
theorem ae.ld {P:Program}{f:FuncId}{args:List CV}{r:CV}(h:ae P f args r):ae P f args (Can.ld r):=
 ⟨h.1,fun F vs w hF hv=>(h.2 F vs w hF hv).mono fun _e _w' ⟨v,h1,h2,h3⟩=>⟨v,h1,h2,bK.ld r v h3⟩⟩
end Go.Can
namespace Go.Proofs.YtlkmbdfhdknlgaaGreatDoor
open Go.Can Go.aT
def uH:Un:=⟨[],[⟨⟨#[97]⟩,false,0⟩],[⟨⟨#[109,97,105,110]⟩,0,0,0,[.lock false ⟨false,0,none⟩,.lock true ⟨false,0,none⟩,.ret]⟩],0⟩
theorem zE:jP uH:=by
 refine⟨by decide,by decide,by decide,(fun g hg=>by cases hg),?_,rfl,?_,?_,?_⟩
 ·intro m hm;simp only[uH,List.mem_cons,List.not_mem_nil,or_false] at hm;subst hm;simp
 ·intro q hq;simp only[uH,List.getElem?_cons_zero,Option.some.injEq] at hq;subst hq;simp
 ·intro q hq;simp only[uH,List.mem_cons,List.not_mem_nil,or_false] at hq;subst hq;simp
 ·intro q hq;simp only[uH,List.mem_cons,List.not_mem_nil,or_false] at hq;subst hq;refine⟨⟨[.lock false ⟨false,0,none⟩,.lock true ⟨false,0,none⟩],rfl⟩,fun i hi=>?_⟩;simp only[List.mem_cons,List.not_mem_nil,or_false] at hi;rcases hi with rfl | rfl | rfl
  ·exact .inr ⟨rfl,_,rfl,.inl ⟨rfl,rfl⟩⟩
  ·exact .inr ⟨rfl,_,rfl,.inl ⟨rfl,rfl⟩⟩
  ·trivial
theorem Hp:ae Tryz.prog 19 yp (.db [dt uH,I 0,I 0,I 0]):=by
 have h:=G9.ld;have e:ld B7=.db [dt uH,I 0,I 0,I 0]:=by rfl
 rwa [e] at h
def BR (d:Int):Ce:=⟨0,0,1,d,[⟨0,true,[⟨0,-1⟩]⟩]⟩
def E8:Ce:=⟨0,0,0,0,[]⟩
theorem CE (d:Int):IN (BR d)∧IM (BR d):=⟨⟨by simp[BR],fun r hr=>by
 rw[List.mem_singleton.1 hr];simp⟩,by simp[IM,i64,BR]⟩
theorem Hn:IN E8∧IM E8:=⟨⟨by simp[E8],fun r hr=>by cases hr⟩,by simp[IM,i64,E8]⟩
theorem rp_1:jZ uH (BR 1)=(1,0):=by kernel_rfl
theorem rp_2:jZ uH (BR 0)=(1,12):=by kernel_rfl
theorem rp_3:jZ uH E8=(0,10):=by kernel_rfl
set_option maxRecDepth 100000 in
theorem rp_ok:ae Tryz.prog 13 [] (.bool true):=by
 obtain⟨ga,gb,ZS,Yk,tga,tgb⟩:∃ ga gb:List CV,B6=.db [.agg [.ag,.au ga 1,.au gb 1],I 42,I 0]∧yp=[.agg [.ag,.au ga 1,.au gb 1]]∧trees ga=true∧trees gb=true:=⟨_,_,rfl,rfl,rfl,rfl⟩;have Uu:=G8;have OU:=Hp;rw[ZS] at Uu;rw[Yk] at OU;have YN:trees [.agg [.ag,.au ga 1,.au gb 1]]=true:=by simp only[trees,tree,Bool.and_self]
 have De:=tj uH zE;have h1:=l7 zE (BR 1) (CE 1).1 (CE 1).2;have h2:=l7 zE (BR 0) (CE 0).1 (CE 0).2;have h3:=l7 zE E8 Hn.1 Hn.2;rw[rp_1] at h1;rw[rp_2] at h2;rw[rp_3] at h3;have h4:=nY (BR 0) (CE 0).1.1;have h5:=nY E8 Hn.1.1;have Kd:=bB uH;have Sw:=aE bL (av uH).is;have LS:=nJ (av uH).calls;have trs:=dJ (av uH).roots;have Ul:trees [dt uH]=true:=by simp only[trees,tree,dt,Kd,Bool.and_self]
 have RY:∀ c:Ce,trees [dt uH,ja (av uH),oD c]=true:=fun c=>by simp only[trees,tree,dt,ja,oD,bB,cM,iB,Bool.and_self]
 have RW:=RY (BR 1);have U9:=RY (BR 0);have U8:=RY E8;generalize uH=u at *;simp only[dt,dj,ja,fe,ints,aN] at OU De h1 h2 h3 Ul RW U9 U8;simp only[BR,E8,oD,qz,ct,cZ,eU,kY,List.flatMap_cons,List.flatMap_nil,List.append_nil,List.length_cons,List.length_nil] at h1 h2 h3 h4 h5 RW U9 U8;refine ae.aD af Tryz.func13 rfl lz (by simp[Tryz.ntmps13]) rfl fun C hC xJ=>?_;rw[Tryz.ntmps13] at hC;apply ah;simp[hC];refine T.seq (T.region (TL.some af 1 ?_));simp[hC];refine jl rfl (zY af yI rfl rfl yA rfl rfl rfl rfl) ?_;simp[DN];refine dk rfl Uu ?_;simp[hC];refine T.le (Le.trim [0,1] [1] 2 Nk yA) ?_;simp;apply ah;simp[hC];refine dk YN OU ?_;simp[hC];apply ah;simp[hC];refine dk Ul De ?_;simp[hC];apply ah;simp[hC,aS];refine T.le (Le.trim [10,8,4,0] [6,5,4,3,2] 7 LR yA) ?_;simp;refine T.le (Le.dC (o:=4) rfl rfl) ?_;simp;refine T.le (Le.dC (o:=5) rfl rfl) ?_;simp;apply ah;simp[hC];refine dk RW h1 ?_;simp[hC];apply ah;simp[hC];apply ah;simp[hC];refine dk U9 h2 ?_;simp[hC];refine T.seq (T.region (TL.some af 3 ?_));simp[hC];refine TL.le (Le.nz [59] []) ?_;simp;refine dk U8 h3 ?_;simp[hC];apply ah;simp[hC];refine TL.bG yI rfl rfl rfl rfl (bm.of rfl rfl h4) (TL.some af 4 ?_);simp[hC,ji];refine TL.le (Le.nz [83] []) ?_;simp;refine TL.bG yI rfl rfl rfl rfl (bm.of rfl rfl h5) (TL.go' af ?_);simp[hC,ji];apply T.ret;apply aa.here;simp[Tryz.results13]
theorem J8.b {n k:Nat}{x:Ce}(h:J8 n k x)(hn:n≤1000)(hk:k≤1000):IN x:=⟨Nat.le_trans h.1 hn,fun r hr=>Nat.le_trans (h.2.1 r hr) hk⟩
theorem JP (u:Un)(c:Cl)(l:List Ru)(m:Nat):∀ (t:List Ru) (out:List Et),(fX u c l m t out).1.length≤out.length+t.length
 | [],out=>by simp[fX]
 | r::t,out=>by
  simp only[fX];split
  ·have:=JP u c l m t (out++[Bv u c m out r]);simp at this ⊢;omega
  ·simp only[List.length_cons,List.length_nil];omega
theorem J1 {u:Un}{x:Ce}{n:Nat}(h:x.rules.length≤n):(dM u x).1.length≤n:=by
 unfold dM;split
 ·simp
 ·have:=JP u (av u) x.rules x.lock.toNat x.rules [];simp at this;omega
def JQ (u:Un)(x:Ce):List (Nat×Ob):=[(3,⟨39,0,qz x⟩),(2,⟨34,0,fe (av u)⟩),(1,⟨30,0,dj u⟩)]
def S17 (u:Un)(_a b c d e f g:Int)(s:St):Prop:=∃ x:Ce,J8 6 20 x∧s=⟨[(22,.ai 3 0),(21,.ai 2 0),(20,.ai 1 0),(3,I b),(4,I c),(5,I d),(6,I e),(7,I f),(8,I g)],JQ u x,4⟩
def J217 (u:Un)(n:Nat)(s:St):Prop:=∃ (i:Nat) (x:Ce) (b c d e f g:Int),n=3-i∧i≤3∧J8 (6+i) (20+i) x∧s=⟨[(26,I i),(22,.ai 3 0),(21,.ai 2 0),(20,.ai 1 0),(3,I b),(4,I c),(5,I d),(6,I e),(7,I f),(8,I g)],JQ u x,4⟩
set_option maxRecDepth 100000 in
set_option maxHeartbeats 4000000 in
theorem JT (l l2:List Int)(hl:l.length≤9223372036854775807)(KR:l2.length≤9223372036854775807)(a b c d e f g:Int):ae Tryz.prog 3 [ints l,ints l2,I a,I b,I c,I d,I e,I f,I g] (.bool true):=by
 have aw:=rp_ok;have OR:=ET l hl;have R2:=wW l;generalize jV (zV l)=u at OR R2;have Kd:=bB u;have KN:=cM (av u);have t1:trees [ints l]=true:=by simp only[ints,trees,tree,Bool.and_self]
 have KV:=R2.nm;have XR:=AA a u.ms.length yA yA;obtain⟨m,hm⟩:∃ m:Nat,a % (u.ms.length:Int)=m:=⟨_,(Int.toNat_of_nonneg (Int.emod_nonneg _ yA)).symm⟩;have MV:m<u.ms.length:=by
  have:=Int.emod_lt_of_pos a (b:=(u.ms.length:Int)) yA;omega
 rw[hm] at XR;have Qr:=J6 R2 l2 KR m yA;have XF:trees [dt u,ja (av u),ints l2,I m]=true:=by simp only[ints,trees,tree,dt,ja,bB,cM,Bool.and_self]
 have Sv:=aP (av u).roots;have rU:=fun ρ=>aF ρ _ Kd;have rC:=fun ρ=>aF ρ _ KN;have rR:∀ ρ (l:List Ru),cg ρ (l.flatMap cZ)=l.flatMap cZ:=fun ρ l=>aF ρ _ (du l);refine ae.aD af Tryz.func3 rfl lz (by simp[Tryz.ntmps3]) rfl fun C hC xJ=>?_;rw[Tryz.ntmps3] at hC;simp only[dt,ja,dj,fe,ints] at Kd KN Qr XF rU rC;apply ah;simp[hC];apply ah;simp[hC];refine dk t1 OR ?_;simp[hC,tv,dH,dt,dj,ja,fe];apply T.seq;refine T.rx af follows [0,1,2,3,4,5,6,9,7,8,10] [(0,9),(0,7),(1,9),(1,7),(5,9),(9,7),(9,8)] lz ?_;simp[hC,ints];refine RX.call rfl j5 rfl rfl rfl zK (XR) ?_;simp;refine RX.Eh rfl j5 rfl rfl rfl XF Qr fun v hv=>?_;obtain⟨x,rfl,hx⟩:=hv;simp[oD,qz];have UH:=hx.b yA yA;have N9:=wz R2 x UH;have OP:trees [dt u,ja (av u),oD x]=true:=by simp only[trees,tree,dt,ja,oD,bB,cM,iB,Bool.and_self]
 simp only[dt,ja,dj,fe,ints,oD,qz] at N9 OP;have YR:=iB x;simp only[qz] at YR;have Ue:(dM u x).1.length≤6:=J1 hx.1;generalize dM u x=EQ at N9 Ue;obtain⟨E,p,q⟩:=EQ;simp only at N9 Ue;refine T.cut (S17 u a b c d e f g) ?_ ?_
 ·apply ah;simp[hC];refine dk OP N9 ?_;simp[hC,jJ];by_cases h0:0<E.length
  ·apply ah;simp[hC,h0];generalize MH:(IntKind.i64.wrap ↑((d % 2 ^ IntKind.i64.bits).toNat &&& 1 % 2 ^ IntKind.i64.bits) == 1)=bb
   cases bb with
   | true=>
    obtain⟨k,hk⟩:∃ k,E.length=k+1:=⟨E.length-1,by omega⟩;obtain⟨y,hy⟩:∃ y,E[k]? = some y:=⟨_,List.getElem?_eq_getElem yA⟩;have hdy:=bb (f:=dD) (n:=3) fW hy 2 yA;have WG:=az (f:=dD) (n:=3) fW hy;have N6:(k:Int)<k+1:=by omega
    have wk:IntKind.i64.wrap (k:Int)=k:=cm _ yA yA;refine cz ?_;simp;apply a8;simp[hC,hk,WG,dD,N6,wk];refine aa.le (Le.norm [22,21,20,3,4,5,6,7,8] [(12,3),(2,2),(1,1)] 0 4 Lb La (by simp[e8,yf,sI,tree,assoc,-List.all_eq_true,-List.all_flatMap,aK Kd,aK KN,ct]) yA) ?_;simp[dP,cr,cg,en,gA,assoc,qT,ct];refine aa.here ⟨⟨x.lock,x.inst,x.pc,y.gm,x.rules⟩,hx,?_⟩;simp[JQ,dj,fe,ints,qz,aN,ct]
   | false=>
    refine dg ?_;simp;refine aa.le (Le.norm [22,21,20,3,4,5,6,7,8] [(12,3),(2,2),(1,1)] 0 4 Lb La (by simp[e8,yf,sI,tree,assoc,-List.all_eq_true,-List.all_flatMap,aK Kd,aK KN,ct]) yA) ?_;simp[dP,cr,cg,en,gA,assoc,qT,ct];refine aa.here ⟨x,hx,?_⟩;simp[JQ,dj,fe,ints,qz,aN,ct]
  ·apply ah;simp[hC,h0];refine dg ?_;simp;refine aa.le (Le.norm [22,21,20,3,4,5,6,7,8] [(12,3),(2,2),(1,1)] 0 4 Lb La (by simp[e8,yf,sI,tree,assoc,-List.all_eq_true,-List.all_flatMap,aK Kd,aK KN,ct]) yA) ?_;simp[dP,cr,cg,en,gA,assoc,qT,ct];refine aa.here ⟨x,hx,?_⟩;simp[JQ,dj,fe,ints,qz,aN,ct]
 rintro s ⟨x,hx,rfl⟩;apply aL;simp[hC];apply T.block;refine T.aI (J217 u) (n:=3) ?_ ?_
 ·refine aa.trim [26,22,21,20,3,4,5,6,7,8] [3,2,1] 4 (by simp[JQ,dj,fe,ints,qz,-List.all_eq_true,-List.all_flatMap,aj Kd,aj KN,bq _ _ (iC _)]) yA ⟨0,x,b,c,d,e,f,g,rfl,by omega,hx,?_⟩;simp[JQ]
 ·rintro n s ⟨i,x,b,c,d,e,f,g,rfl,hi,hx,rfl⟩;have UH:=hx.b yA yA;have Yn:=l7 R2 x UH hx.2.2;have X0:=yJ R2 x UH;have OP:trees [dt u,ja (av u),oD x]=true:=by simp only[trees,tree,dt,ja,oD,bB,cM,iB,Bool.and_self]
  have SX:=JX x (6+i) (20+i) yA yA hx b c d;have Xw:trees [oD x,I b,I c,I d]=true:=by simp only[trees,tree,oD,iB,Bool.and_self]
  simp only[JQ,dt,ja,dj,fe,ints,oD,qz] at Yn X0 OP SX Xw ⊢;by_cases Mq:i<3
  ·have TB:(i:Int)<3:=by omega
   have wi:=cm ((i:Int)+1) yA yA;apply aL;simp[hC,TB];refine T.cond (b:=true) (by first | rfl | simp[ev,assoc,TB]) (T.skip ?_);simp;apply fw;apply ah;simp[hC];refine dk OP Yn ?_;simp[hC];apply ah;simp[hC];refine dk OP X0 ?_;simp[hC];apply aL;simp[hC];refine dg ?_;simp;apply ah;simp[hC];refine TL.Eh yI rfl rfl rfl Xw SX fun v hv=>TL.go' af ?_;obtain⟨y,rfl,hy⟩:=hv;simp;apply a8;simp[hC];apply a8;simp[hC,wi];refine⟨3-(i+1),by omega,aa.trim [26,22,21,20,3,4,5,6,7,8] [3,2,1] 4 (by simp[-List.all_eq_true,-List.all_flatMap,aj Kd,aj KN,bq _ _ (iC _)]) yA ⟨i+1,y,e,f,g,e,f,g,rfl,by omega,hy,?_⟩⟩;simp[JQ,dj,fe,ints,qz]
  ·have CW:i=3:=by omega
   subst CW;apply aL;simp[hC];refine aU ?_;simp;apply T.exit;simp;apply ah;simp;refine dk rfl aw ?_;simp[hC];apply T.ret;apply aa.here;simp[Tryz.results3]
end Go.Proofs.YtlkmbdfhdknlgaaGreatDoor
namespace Go.Can
open Go.ChangeShapes Go.WideShapes Go.ChangeAt Go.RowKit
section
variable {P:Program}{H:Type}{enc:TypeId×Value→H}{w:World}
theorem y0 {F:Nat→Prop}(hF:∀ b,¬ F b):∀ (cs:List CV) (ad:Addr),cs.all one=true→(∀ i c,cs[i]? = some c→∃ u,w.cell? (ad.add i)=some u∧bK w F c u)→ej w F cs ad
 | [],_,_,_=>by simp[ej]
 | c::cs,ad,h1,h=>by
  simp only[List.all_cons,Bool.and_eq_true] at h1;obtain⟨u,k1,k2⟩:=h 0 c rfl;rw[add_zero] at k1;simp only[ej];refine⟨⟨u,k1,hF _,k2⟩,h1.1,y0 hF cs _ h1.2 fun i d hi=>?_⟩;obtain⟨v,m1,m2⟩:=h (i+1) d (by simpa using hi);refine⟨v,?_,m2⟩;rw[add_add,Nat.add_comm];exact m1
theorem Fs {α:Type}(f:α→CV)(h:∀ x,one (f x)=true)(l:List α):(l.map f).all one=true:=by
 rw[List.all_eq_true];intro x hx;obtain⟨y,_,rfl⟩:=List.mem_map.1 hx;exact h y
theorem x8 {F:Nat→Prop}(cs:List CV)(h:cs=[]):bK w F (.au cs 0) (.slice none 0 0):=by
 subst h;simp only[bK];exact⟨none,0,rfl,Nat.le_refl _,Nat.zero_le _,.inl ⟨trivial,by simp⟩⟩
theorem sB {F:Nat→Prop}(hF:∀ b,¬ F b){t e:TypeId}{r:Reach}{b0:Nat}{v:Value}{d:DataW H}{ps:List MemPlace}(ht:P.underlying t=some (.slice e))(he:P.underlying e=some (.int .i64))(hc:P.cellsOf e=1)
  (KQ:Value.okWide P w r b0 t v) (h:DataW.Trod enc P w 0 (fun _=>true) true t v d ps):∃ l:List Int,bK w F (ints l) v∧l.length≤9223372036854775807:=by
 obtain⟨a,n,cap,rfl⟩:=okWide_slice ht KQ;obtain⟨fuel,hf⟩:=h;rcases open_ints ht he hc hf with ⟨Kr,_⟩ | ⟨a',len,cap',zs,Kr,_,hl,hm,hz,_,KW,_⟩
 ·simp[Value.cells] at Kr;obtain⟨rfl,rfl,rfl⟩:=Kr;exact⟨[],x8 _ rfl,by simp⟩
 ·simp[Value.cells] at Kr;obtain⟨rfl,rfl,rfl⟩:=Kr;simp only[if_true] at hz;have hlen:(zs.take n).length=n:=by simp;omega
  refine⟨zs.take n,?_,by rw[hlen];simp only[maxLen] at hm;omega⟩;unfold ints;rw[hlen];simp only[bK];refine⟨_,cap,rfl,hl,hm,.inr ⟨a',rfl,y0 hF _ _ (Fs _ (fun _=>rfl) _) fun i c hi=>?_⟩⟩;rw[List.getElem?_map] at hi;obtain⟨z,NX,rfl⟩:=Option.map_eq_some_iff.1 hi;rw[List.getElem?_take] at NX;split at NX
  ·rename_i Kz;have yN:i<zs.length:=by omega
   refine⟨_,KW i yN,?_⟩;have:zs.getD i 0=z:=by simp[List.getD,NX]
   rw[this];simp[bK]
  ·cases NX
theorem ae.calls {f:FuncId}{args:List CV}{b:Bool}(h:ae P f args (.bool b)){vs:List Value}(hv:bt w (fun _=>False) args vs)(hg:G3 w (fun _=>False):=by simp[G3,EG]):Calls P f vs.toArray w fun e w'=>e=.returned (.bool b)∧Below w.heap.size w w':=
 (h.2 (fun _=>False) vs w ⟨fun _ hb=>hb.elim,hg.mono fun _ hb=>hb.elim id id⟩ hv).mono fun e w' ⟨v,h1,h2,h3⟩=>by
  simp only[bK] at h3;subst h3;exact⟨h1,h2⟩
end
end Go.Can
/- Arguments as the contracts read them: a slice of structs of four integers. No function of the program is mentioned here. -/
namespace Go.Can
open Go.ChangeShapes Go.WideShapes Go.ChangeAt Go.RowKit
section
variable {P:Program}{H:Type}{enc:TypeId×Value→H}{w:World}
def q4 (e:Int×Int×Int×Int):List CV:=[.int .i64 e.1,.int .i64 e.2.1,.int .i64 e.2.2.1,.int .i64 e.2.2.2]
end
end Go.Can
namespace Go.Proofs.YtlkmbdfhdknlgaaGreatDoor
open Go.Can Go.aT Go.ChangeShapes Go.WideShapes Go.ChangeAt Go.RowKit
instance : Inhabited It := ⟨⟨0, 0⟩⟩
instance : Inhabited Ru := ⟨⟨0, false, []⟩⟩
end Go.Proofs.YtlkmbdfhdknlgaaGreatDoor
