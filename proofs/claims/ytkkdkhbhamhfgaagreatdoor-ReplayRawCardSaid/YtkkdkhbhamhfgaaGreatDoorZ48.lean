/- Calls that may turn maps and leave new objects, on a part of -/
import Derived.Test.YtkkdkhbhamhfgaaGreatDoorZ43
import Derived.Test.YtkkdkhbhamhfgaaGreatDoorZ47
import Derived.OpenShut
namespace Go.Can
open Go.RowKit
section
variable {P:Program}{C:Cx}{σ:Nat→Option OB}{s:St}{a:Act}{w:World}{ops:Array Oper}{ak:List (Nat×TI)}
theorem EH.ret {f:FuncId}{args:List CV}{H:List (Nat×Ob)}{n:Nat}{ks:List Nat}{R R':CV→St→Prop}(h:EH P ak f args H n ks R)(hR:∀ r s,R r s→R' r s):EH P ak f args H n ks R':=by
 obtain⟨fn,c,hf,hb,KI,hl,hT⟩:=h;refine⟨fn,c,hf,hb,KI,hl,fun C hC JR hM=>T.mono (hT C hC JR hM) fun e s q=>?_⟩;have key:∀ (C:Cx) s,aa C (fun s'=>∃ r,bf ak fn s'=some r∧R r s') s→aa C (fun s'=>∃ r,bf ak fn s'=some r∧R' r s') s:=fun C s ⟨s',⟨r,q1,q2⟩,hl⟩=>⟨s',⟨r,q1,hR r s' q2⟩,hl⟩
 cases e with
 | normal=>exact key C s q
 | ret=>exact key C s q
 | _=>exact q
end
end Go.Can
namespace Go.Can
mutual
def ld:CV→CV
 | .ag=>.au [] 0
 | .agg cs=>.agg (mW cs)
 | .au cs n=>.au (mW cs) n
 | .db cs=>.db (mW cs)
 | .int k n=>.int k n
 | .bool b=>.bool b
 | .str s=>.str s
 | .cc cs=>.cc cs
 | .bg=>.bg
 | .fn f cs=>.fn f cs
 | .iface f cs=>.iface f cs
 | .bT=>.bT
 | .iter k s p=>.iter k s p
 | .mp k es=>.mp k es
 | .bw o f n=>.bw o f n
 | .ai o f=>.ai o f
 | .any=>.any
def mW:List CV→List CV
 | []=>[]
 | c::cs=>ld c::mW cs
end
theorem zM (c:CV):one (ld c)=one c:=by cases c<;>simp only[ld,one]
theorem wN:∀ cs:List CV,(mW cs).all one=cs.all one
 | []=>by simp only[mW]
 | c::cs=>by simp only[mW,List.all_cons,zM,wN cs]
theorem C6 {cs:List CV}(h:cs=[]):mW cs=[]:=by rw[h,mW]
mutual
theorem bK.ld {w:World}{F:Nat→Prop}:∀ (c:CV) (v:Value),bK w F c v→bK w F (ld c) v
 | .ag,v,h=>by
  simp only[bK] at h;subst h;simp only[Can.ld,bK];exact⟨none,0,rfl,Nat.le_refl _,Nat.zero_le _,.inl ⟨trivial,trivial⟩⟩
 | .agg cs,v,h=>by
  simp only[bK] at h;obtain⟨vs,h1,h2,h3⟩:=h;simp only[Can.ld,bK];exact⟨vs,h1,bt.ld cs vs h2,by rw[wN];exact h3⟩
 | .au cs n,v,h=>by
  simp only[bK] at h;obtain⟨A,cap,h1,h2,h3,h4⟩:=h;simp only[Can.ld,bK];refine⟨A,cap,h1,h2,h3,?_⟩;rcases h4 with ⟨h4,h5⟩ | ⟨ad,h4,h5⟩
  ·exact .inl ⟨h4,C6 h5⟩
  ·exact .inr ⟨ad,h4,ej.ld cs ad h5⟩
 | .db cs,v,h=>by
  simp only[bK] at h;obtain⟨vs,h1,h2⟩:=h;simp only[Can.ld,bK];exact⟨vs,h1,bt.ld cs vs h2⟩
 | .int _ _,_,h=>by simpa only[Can.ld] using h
 | .bool _,_,h=>by simpa only[Can.ld] using h
 | .str _,_,h=>by simpa only[Can.ld] using h
 | .cc _,_,h=>by simpa only[Can.ld] using h
 | .bg,_,h=>by simpa only[Can.ld] using h
 | .fn _ _,_,h=>by simpa only[Can.ld] using h
 | .iface _ _,_,h=>by simpa only[Can.ld] using h
 | .bT,_,h=>by simpa only[Can.ld] using h
 | .iter _ _ _,_,h=>by simpa only[Can.ld] using h
 | .mp _ _,_,h=>by simpa only[Can.ld] using h
 | .bw _ _ _,_,h=>by simpa only[Can.ld] using h
 | .ai _ _,_,h=>by simpa only[Can.ld] using h
 | .any,_,h=>by simpa only[Can.ld] using h
theorem bt.ld {w:World}{F:Nat→Prop}:∀ (cs:List CV) (vs:List Value),bt w F cs vs→bt w F (mW cs) vs
 | [],_,h=>by simpa only[mW] using h
 | c::cs,vs,h=>by
  simp only[bt] at h;obtain⟨v,r,h1,h2,h3⟩:=h;simp only[mW,bt];exact⟨v,r,h1,bK.ld c v h2,bt.ld cs r h3⟩
theorem ej.ld {w:World}{F:Nat→Prop}:∀ (cs:List CV) (ad:Addr),ej w F cs ad→ej w F (mW cs) ad
 | [],_,_=>by simp only[mW,ej]
 | c::cs,ad,h=>by
  simp only[ej] at h;obtain⟨⟨u,h1,h2,h3⟩,h4,h5⟩:=h;simp only[mW,ej];exact⟨⟨u,h1,h2,bK.ld c u h3⟩,by rw[zM];exact h4,ej.ld cs _ h5⟩
end
theorem ae.ld {P:Program}{f:FuncId}{args:List CV}{r:CV}(h:ae P f args r):ae P f args (Can.ld r):=
 ⟨h.1,fun F vs w hF hv=>(h.2 F vs w hF hv).mono fun _e _w' ⟨v,h1,h2,h3⟩=>⟨v,h1,h2,bK.ld r v h3⟩⟩
end Go.Can
namespace Go.Proofs.YtkkdkhbhamhfgaaGreatDoor
open Go.Can Go.aT
def uH:Un:=⟨[],[⟨⟨#[97]⟩,false,0⟩],[⟨⟨#[109,97,105,110]⟩,0,0,0,[.lock false ⟨false,0,none⟩,.lock true ⟨false,0,none⟩,.ret]⟩],0⟩
theorem zE:jP uH:=by
 refine⟨by decide,by decide,by decide,(fun g hg=>by cases hg),?_,rfl,?_,?_,?_⟩
 ·intro m hm;simp only[uH,List.mem_cons,List.not_mem_nil,or_false] at hm;subst hm;simp
 ·intro q hq;simp only[uH,List.getElem?_cons_zero,Option.some.injEq] at hq;subst hq;simp
 ·intro q hq;simp only[uH,List.mem_cons,List.not_mem_nil,or_false] at hq;subst hq;simp
 ·intro q hq;simp only[uH,List.mem_cons,List.not_mem_nil,or_false] at hq;subst hq;refine⟨⟨[.lock false ⟨false,0,none⟩,.lock true ⟨false,0,none⟩],rfl⟩,fun i hi=>?_⟩;simp only[List.mem_cons,List.not_mem_nil,or_false] at hi;rcases hi with rfl | rfl | rfl
  ·exact .inr ⟨rfl,_,rfl,.inl ⟨rfl,rfl⟩⟩
  ·exact .inr ⟨rfl,_,rfl,.inl ⟨rfl,rfl⟩⟩
  ·trivial
theorem Hp:ae Tryz.prog 19 yp (.db [dt uH,I 0,I 0,I 0]):=by
 have h:=G9.ld;have e:ld B7=.db [dt uH,I 0,I 0,I 0]:=by rfl
 rwa [e] at h
def BR (d:Int):Ce:=⟨0,0,1,d,[⟨0,true,[⟨0,-1⟩]⟩]⟩
def E8:Ce:=⟨0,0,0,0,[]⟩
theorem CE (d:Int):IN (BR d)∧IM (BR d):=⟨⟨by simp[BR],fun r hr=>by
 rw[List.mem_singleton.1 hr];simp⟩,by simp[IM,i64,BR]⟩
theorem Hn:IN E8∧IM E8:=⟨⟨by simp[E8],fun r hr=>by cases hr⟩,by simp[IM,i64,E8]⟩
theorem rp_1:jZ uH (BR 1)=(1,0):=by kernel_rfl
theorem rp_2:jZ uH (BR 0)=(1,12):=by kernel_rfl
theorem rp_3:jZ uH E8=(0,10):=by kernel_rfl
set_option maxRecDepth 100000 in
theorem rp_ok:ae Tryz.prog 13 [] (.bool true):=by
 obtain⟨ga,gb,Za,Xu,ZZ,ZY⟩:∃ ga gb:List CV,B6=.db [.agg [.ag,.au ga 1,.au gb 1],I 42,I 0]∧yp=[.agg [.ag,.au ga 1,.au gb 1]]∧trees ga=true∧trees gb=true:=⟨_,_,rfl,rfl,rfl,rfl⟩;have TO:=G8;have Ol:=Hp;rw[Za] at TO;rw[Xu] at Ol;have X0:trees [.agg [.ag,.au ga 1,.au gb 1]]=true:=by simp only[trees,tree,Bool.and_self]
 have JY:=tj uH zE;have h1:=l7 zE (BR 1) (CE 1).1 (CE 1).2;have h2:=l7 zE (BR 0) (CE 0).1 (CE 0).2;have h3:=l7 zE E8 Hn.1 Hn.2;rw[rp_1] at h1;rw[rp_2] at h2;rw[rp_3] at h3;have h4:=nY (BR 0) (CE 0).1.1;have h5:=nY E8 Hn.1.1;have Kr:=bB uH;have RQ:=aE bL (av uH).is;have Lu:=nJ (av uH).calls;have ZV:=dJ (av uH).roots;have TB:trees [dt uH]=true:=by simp only[trees,tree,dt,Kr,Bool.and_self]
 have Rh:∀ c:Ce,trees [dt uH,ja (av uH),oD c]=true:=fun c=>by simp only[trees,tree,dt,ja,oD,bB,cM,iB,Bool.and_self]
 have Rg:=Rh (BR 1);have Uw:=Rh (BR 0);have Uv:=Rh E8;generalize uH=u at *;simp only[dt,dj,ja,fe,ints,aN] at Ol JY h1 h2 h3 TB Rg Uw Uv;simp only[BR,E8,oD,qz,ct,cZ,eU,kY,List.flatMap_cons,List.flatMap_nil,List.append_nil,List.length_cons,List.length_nil] at h1 h2 h3 h4 h5 Rg Uw Uv;refine ae.aD af Tryz.func13 rfl JN (by simp[Tryz.ntmps13]) rfl fun C hC JR=>?_;rw[Tryz.ntmps13] at hC;apply ah;simp[hC];refine T.seq (T.region (TL.some af 1 ?_));simp[hC];refine jl rfl (zY af JT rfl rfl yA rfl rfl rfl rfl) ?_;simp[DN];refine dk rfl TO ?_;simp[hC];refine T.le (Le.trim [0,1] [1] 2 MN yA) ?_;simp;apply ah;simp[hC];refine dk X0 Ol ?_;simp[hC];apply ah;simp[hC];refine dk TB JY ?_;simp[hC];apply ah;simp[hC,aS];refine T.le (Le.trim [10,8,4,0] [6,5,4,3,2] 7 L7 yA) ?_;simp;refine T.le (Le.dC (o:=4) rfl rfl) ?_;simp;refine T.le (Le.dC (o:=5) rfl rfl) ?_;simp;apply ah;simp[hC];refine dk Rg h1 ?_;simp[hC];apply ah;simp[hC];apply ah;simp[hC];refine dk Uw h2 ?_;simp[hC];refine T.seq (T.region (TL.some af 3 ?_));simp[hC];refine TL.le (Le.nz [59] []) ?_;simp;refine dk Uv h3 ?_;simp[hC];apply ah;simp[hC];refine TL.bG JT rfl rfl rfl rfl (bm.of rfl rfl h4) (TL.some af 4 ?_);simp[hC,ji];refine TL.le (Le.nz [83] []) ?_;simp;refine TL.bG JT rfl rfl rfl rfl (bm.of rfl rfl h5) (TL.go' af ?_);simp[hC,ji];apply T.ret;apply aa.here;simp[Tryz.results13]
def nr (r:Ru):Ru:=⟨r.inst,r.dU,r.items.take 20⟩
def oy (x:Ce):Ce:=⟨x.lock,x.inst,x.pc,x.depth,(x.rules.take 20).map nr⟩
def j5 (R:List Ru)(i:Nat):List Ru:=(R.take i).map nr++R.drop i
theorem De {R:List Ru}{i:Nat}{r:Ru}(h:R[i]? = some r):(j5 R i)[i]? = some r∧(j5 R i).set i (nr r)=j5 R (i+1)∧(j5 R i).length=R.length:=by
 have hi:=(List.getElem?_eq_some_iff.1 h).1;have hl:((R.take i).map nr).length=i:=by simp;omega
 refine⟨?_,?_,?_⟩
 ·rw[j5,List.getElem?_append_right yA,hl,Nat.sub_self,← List.head?_eq_getElem?,List.head?_drop];exact h
 ·rw[j5,j5,List.set_append_right _ _ yA,hl,Nat.sub_self,rP h,List.set_cons_zero,List.take_add_one,h];simp
 ·simp[j5];omega
theorem yN (x:Ce):IN (oy x):=by
 refine⟨by simp[oy];omega,fun r hr=>?_⟩;simp only[oy,List.mem_map] at hr;obtain⟨q,_,rfl⟩:=hr;simp[nr];omega
def yI (R:List Ru):Ob:=⟨55,3,R.flatMap cZ⟩
def J209 (u:Un)(x:Ce)(R:List Ru)(n:Nat)(s:St):Prop:=∃ i:Nat,n=R.length-i∧i≤R.length∧
 s=⟨[(8,I i),(7,.ai 3 0),(6,.ai 2 0),(3,.ai 0 0)],[(5,yI (j5 R i)),(3,⟨34,0,fe (av u)⟩),(2,⟨30,0,dj u⟩),(0,⟨39,0,[I x.lock,I x.inst,I x.pc,I x.depth,.bw 5 0 R.length]⟩)],6⟩
theorem F0 (l:Nat):(if 20<l then (20:Int) else (l:Int))=((min 20 l:Nat):Int):=by split<;>omega
theorem xJ {α:Type}{f:α→List CV}{n:Nat}(hf:∀ x,(f x).length=n)(l:List α):List.take ((l.take 20).length*n) (l.flatMap f)=(l.take 20).flatMap f:=by
 rw[tU hf,List.length_take,Nat.min_comm];by_cases h:l.length≤20
 ·rw[Nat.min_eq_left h,List.take_length,List.take_of_length_le h]
 ·rw[Nat.min_eq_right yA]
set_option maxRecDepth 100000 in
set_option maxHeartbeats 4000000 in
theorem AW (l:List Int)(x:Ce)(hl:l.length≤9223372036854775807)(hx:IM x)(MO:x.rules.length≤9223372036854775807)(Yh:∀ r∈x.rules,r.items.length≤9223372036854775807):ae Tryz.prog 4 [ints l,oD x] (.bool true):=by
 have aw:=rp_ok;have Og:=ET l hl;have UT:=wW l;generalize jV (zV l)=u at Og UT;have Kr:=bB u;have LJ:=cM (av u);have t1:trees [ints l]=true:=by simp only[ints,trees,tree,Bool.and_self]
 have kp:=l7 UT (oy x) (yN x) hx;have TS:=yJ UT (oy x) (yN x);have Sd:=nY (oy x) (yN x).1;have Tz:trees [dt u,ja (av u),oD (oy x)]=true:=by simp only[trees,tree,dt,ja,oD,bB,cM,iB,Bool.and_self]
 have RN:trees [oD (oy x)]=true:=by simp only[trees,tree,oD,iB,Bool.and_self]
 generalize jZ u (oy x)=q at kp TS;have ZH:oD (oy x)=.agg [I x.lock,I x.inst,I x.pc,I x.depth,.au (((x.rules.take 20).map nr).flatMap cZ) (x.rules.take 20).length]:=by simp only[oD,qz,oy,ct,List.length_map]
 rw[ZH] at kp TS Sd Tz RN;have PX:=du x.rules;have KX:(if 20<x.rules.length then (20:Int) else (x.rules.length:Int))=((x.rules.take 20).length:Int):=by rw[List.length_take];split<;>omega
 have hR:=fun (r:Ru) (hr:r∈x.rules.take 20)=>Yh r (List.mem_of_mem_take hr);have Kd:=xJ cj x.rules;have ZB:(x.rules.take 20).length≤20:=by simp;omega
 have Zz:(x.rules.take 20).length≤x.rules.length:=by simp;omega
 generalize ZA:x.rules.take 20=R at *;refine ae.aD af Tryz.func4 rfl JN (by simp[Tryz.ntmps4]) rfl fun C hC JR=>?_;rw[Tryz.ntmps4] at hC;simp only[dj,fe,ints] at Kr LJ;simp only[oD,qz,ct];apply ah;simp[hC];apply ah;simp[hC];refine dk t1 Og ?_;simp[hC,tv,dH,dt,dj,ja,fe];apply ah;have Zy:(R.length:Int)≤x.rules.length:=by omega
 have PB:(List.map (fun a=>(cZ a).length) R).sum=R.length*3:=by
  have:=aQ cj R
  simpa [List.length_flatMap] using this
 have L1:R.length*40≤140737488355328:=by omega
 simp[hC,KX,aS,Zz,Kd,PB,L1];apply aL;simp[hC];apply T.block;refine T.aI (J209 u x R) (n:=R.length) ?_ ?_
 ·refine aa.trim [8,7,6,3] [5,3,2,0] 6 (by simp[-List.all_eq_true,-List.all_flatMap,aj LJ,aj (du R),bq _ _ (iD _)]) yA ⟨0,by omega,by omega,?_⟩;simp[j5,yI,dj,fe]
 ·rintro n s ⟨i,rfl,hi,rfl⟩;simp only[dj,fe,ints];by_cases JP:i<R.length
  ·obtain⟨r,hr⟩:∃ r,R[i]? = some r:=⟨_,List.getElem?_eq_getElem JP⟩;obtain⟨QJ,Ok,YV⟩:=De hr;have Qw:=hR r (List.mem_of_getElem? hr);have M8:=bb (f:=cZ) (n:=3) cj QJ 2 yA;have MW:=DP (f:=cZ) (n:=3) (k:=2) (c:=eU (r.items.take 20)) (e':=nr r) cj QJ yA rfl;rw[Ok] at MW;have wi:=cm ((i:Int)+1) yA yA;have P8:(if 20<r.items.length then (20:Int) else (r.items.length:Int))=((r.items.take 20).length:Int):=by rw[F0,List.length_take]
   have OI:=xJ iq r.items;have XB:(r.items.take 20).length≤r.items.length:=by simp;omega
   generalize r.items.take 20=TT at MW P8 OI XB;have ZE:(TT.length:Int)≤r.items.length:=by omega
   have Si:List.take (i*3+2) ((j5 R i).flatMap cZ)++CV.au (TT.flatMap kY) TT.length::List.drop (i*3+2+1) ((j5 R i).flatMap cZ)=(j5 R (i+1)).flatMap cZ:=by simpa [fL,eU] using MW
   have P3:i*3+2+1≤(List.map (fun _=>3) (j5 R i)).sum:=by
    rw[List.map_const',List.sum_replicate_nat,YV];omega
   have hs:(yI (j5 R i)).sz=3:=rfl;have Kc:(yI (j5 R i)).cells=(j5 R i).flatMap cZ:=rfl;have Kb:(yI (j5 R i)).elem=55:=rfl;apply aL;simp[hC,JP];refine gF ?_;simp;apply fw;refine T.rx af follows [0,1,2,3,4,5,6,7,8,9,10,11,12,13,14,15,16,17,18,19,20] [] JN ?_;simp[hC,JP,hs,Kc,Kb,M8,cZ,eU,P8,XB,OI,Si,P3];apply a8;simp[hC,wi];refine⟨R.length-(i+1),by omega,aa.trim [8,7,6,3] [5,3,2,0] 6 (by simp[-List.all_eq_true,-List.all_flatMap,aj Kr,aj LJ,aj (du _)]) yA ⟨i+1,rfl,by omega,?_⟩⟩;simp[yI,dj,fe,ints]
  ·have JW:i=R.length:=by omega
   subst JW;apply aL;simp[hC];refine aU ?_;simp;apply T.exit;simp;have Ls:j5 R R.length=R.map nr:=by rw[j5,List.take_length,List.drop_length,List.append_nil]
   have NL:List.take (R.length*3) ((R.map nr).flatMap cZ)=(R.map nr).flatMap cZ:=List.take_of_length_le (by rw[aQ cj,List.length_map];omega);have X3:trees ((R.map nr).flatMap cZ)=true:=du _;rw[Ls];simp only[yI];refine T.le (Le.dC (o:=5) rfl X3) ?_;simp[mc,bZ,NL];simp only[ints,dt,ja,dj,fe] at kp TS Tz;apply ah;simp[hC];refine dk Tz kp ?_;simp[hC];apply ah;simp[hC];refine dk Tz TS ?_;simp[hC];apply ah;simp[hC];have Nx:(oy x).rules=R.map nr:=by rw[oy,ZA]
   refine T.cut (fun s=>s=⟨[(13,I (ji (oy x))),(12,I q.2),(11,I q.1),(10,I q.2),(9,I q.1),(3,.ai 0 0)],[(0,⟨39,0,[I x.lock,I x.inst,I x.pc,I x.depth,.au ((R.map nr).flatMap cZ) R.length]⟩)],1⟩) ?_ ?_
   ·by_cases h0:R.length=0
    ·have Lk:=List.eq_nil_of_length_eq_zero h0;apply ah;simp[hC,h0];apply ah;simp[hC];refine T.cond (b:=false) (by first | rfl | simp[ev,assoc]) (T.skip ?_);simp;refine aa.trim [13,12,11,10,9,3] [0] 1 L7 yA ?_;simp[ji,Nx,Lk]
    ·obtain⟨n1,Ks⟩:∃ n1,R.length=n1+1:=⟨R.length-1,by omega⟩;obtain⟨r,hr⟩:∃ r,(R.map nr)[n1]? = some r:=⟨_,List.getElem?_eq_getElem (by rw[List.length_map];omega)⟩;have NM:(R.map nr).getLast? = some r:=by rw[List.getLast?_eq_getElem?,List.length_map,Ks,Nat.add_sub_cancel,hr]
     have JQ:=az (f:=cZ) (n:=3) cj hr;have LW:n1<R.length:=by omega
     have Km:(n1:Int)<n1+1:=by omega
     have Mi:IntKind.i64.wrap (n1:Int)=n1:=cm _ yA yA;have Md:(0:Int)<(n1:Int)+1:=by omega
     apply ah;simp[hC,Ks];apply ah;simp[hC,Md];refine T.cond (b:=true) (by first | rfl | simp[ev,assoc,Md]) ?_;simp;apply a8;simp[hC,Km,JQ,cZ,Mi];refine aa.trim [13,12,11,10,9,3] [0] 1 L7 yA ?_;simp[ji,Nx,NM]
   rintro s rfl;apply ah;simp[hC];refine TL.bG JT rfl rfl rfl rfl (bm.of rfl RN Sd) (TL.go' af ?_);simp[hC];refine TL.bG JT rfl rfl rfl rfl (bm.of rfl rfl aw) (TL.go' af ?_);simp[hC];apply T.ret;apply aa.here;simp[Tryz.results4]
end Go.Proofs.YtkkdkhbhamhfgaaGreatDoor
namespace Go.Can
open Go.ChangeShapes Go.WideShapes Go.ChangeAt Go.RowKit
section
variable {P:Program}{H:Type}{enc:TypeId×Value→H}{w:World}
theorem lz {t:TypeId}{tys:List TypeId}{fs:Array Field}{fuel:Nat}{cs:List Value}{x:DataW H×List MemPlace}(ht:P.underlying t=some (.struct fs))(Vb:Go.Deep.oneCellFields P fs=true)(W7:fs.toList.map (·.type)=tys)(Mp:P.cellsOf t=tys.length)(h:DataW.trod enc P w 0 (fun _=>true) true fuel t cs=some x) :
  cs.length=tys.length∧∃ n,∀ i q,tys[i]? = some q→∃ y,DataW.trod enc P w 0 (fun _=>true) true n q [cs.getD i undef]=some y:=by
 obtain⟨xs,n,_,_,JX,MO,Po⟩:=DataW.trod_struct ht h;rw[Mp] at JX;refine⟨JX,n,fun i q hq=>?_⟩;have So:=Go.Deep.hone_of Vb;have hlen:fs.size=tys.length:=by
  have:=congrArg List.length W7
  simpa using this
 have JS:i<fs.size:=by
  have:=(List.getElem?_eq_some_iff.1 hq).1;omega
 have K9:fs[i]? = some fs[i]:=by simp[JS]
 have Mc:fs[i].type=q:=by
  rw[← W7] at hq;simp[JS] at hq;exact hq
 obtain⟨ho,Na⟩:=So i fs[i] K9;have g:=Po i fs[i] K9;rw[ho,Na,Go.Deep.take1_drop cs i undef yA,Mc] at g;exact⟨xs[i],by rw[g];simp[show i<xs.length by omega]⟩
theorem zK {α:Type}[Inhabited α]{f:α→List CV}{n:Nat}{F:Nat→Prop}(hF:∀ b,¬ F b)(hn:0<n)(hf:∀ e,(f e).length=n)(ho:∀ e,(f e).all one=true){ts t:TypeId}(hs:P.underlying ts=some (.slice t))(Mp:P.cellsOf t=n){W:α→Prop}(J2:∀ fuel cs (x:DataW H×List MemPlace),DataW.trod enc P w 0 (fun _=>true) true fuel t cs=some x→∃ e,bt w F (f e) cs∧W e)
  {fuel:Nat} {v:Value} {x:DataW H×List MemPlace} (h:DataW.trod enc P w 0 (fun _=>true) true fuel ts [v]=some x):∃ l:List α,bK w F (.au (l.flatMap f) l.length) v∧l.length≤9223372036854775807∧∀ e∈l,W e:=by
 rcases DataW.trod_slice hs h with ⟨Kc,_⟩ | ⟨a',len,Tt,elems,rest,m,_,Kc,_,_,hl,hm,Kb,LY,_⟩
 ·simp only[List.cons.injEq,and_true] at Kc;subst Kc;exact⟨[],x8 _ rfl,by simp,by simp⟩
 ·simp only[List.cons.injEq,and_true] at Kc;subst Kc;have hE:∀ i,∃ e,i<len→∃ cs,w.cells? 0 (a'.add (i*n)) n=some cs∧bt w F (f e) cs∧W e:=fun i=>by
   by_cases Ko:i<len
   ·have h1:=LY i Ko;rw[Mp,List.getElem?_eq_getElem yA,Option.bind_eq_some_iff] at h1;obtain⟨cs,h2,h3⟩:=h1;obtain⟨e,he,hw⟩:=J2 _ _ _ h3;exact⟨e,fun _=>⟨cs,h2,he,hw⟩⟩
   ·exact⟨default,fun h=>(Ko h).elim⟩
  obtain⟨g,hg⟩:=Classical.axiomOfChoice hE;have K0:∀ i,i<len→((List.range len).map g)[i]? = some (g i):=fun i Ko=>by simp[Ko]
  refine⟨(List.range len).map g,?_,by simp;simp only[maxLen] at hm;omega,?_⟩
  ·rw[List.length_map,List.length_range];simp only[bK];refine⟨_,Tt,rfl,hl,hm,.inr ⟨a',rfl,y0 hF _ _ ?_ fun j c hj=>?_⟩⟩
   ·rw[List.all_eq_true];intro x hx;obtain⟨e,_,hx⟩:=List.mem_flatMap.1 hx;exact List.all_eq_true.1 (ho e) x hx
   ·have KZ:j<len*n:=by
     have:=(List.getElem?_eq_some_iff.1 hj).1;rw[aQ hf] at this
     simpa using this
    have Xq:j / n<len:=(Nat.div_lt_iff_lt_mul hn).2 KZ;have QN:j % n<n:=Nat.mod_lt _ hn;have Xp:j=j / n*n+j % n:=by rw[Nat.mul_comm];exact (Nat.div_add_mod j n).symm
    obtain⟨cs,h2,he,hw⟩:=hg _ Xq;have h5:=az hf (K0 _ Xq);rw[Xp,← List.getElem?_drop,h5,List.getElem?_append_left (by rw[hf];exact QN)] at hj;obtain⟨u,hu,hv⟩:=bt.get _ _ he _ _ hj;have hc:=(World.cells?_some h2).2.2 _ QN;rw[add_add,← Xp,hu] at hc;exact⟨u,hc,hv⟩
  ·intro e he;obtain⟨i,hi,rfl⟩:=List.mem_map.1 he;obtain⟨_,_,_,hw⟩:=hg i (List.mem_range.1 hi);exact hw
end
end Go.Can
namespace Go.Proofs.YtkkdkhbhamhfgaaGreatDoor
open Go.Can Go.aT Go.ChangeShapes Go.WideShapes Go.ChangeAt Go.RowKit
instance : Inhabited It := ⟨⟨0, 0⟩⟩
instance : Inhabited Ru := ⟨⟨0, false, []⟩⟩
section
variable {H:Type}{enc:TypeId×Value→H}{w:World}{F:Nat→Prop}
theorem m9 {fuel:Nat}{v:Value}{x:DataW H×List MemPlace}(h:DataW.trod enc Tryz.prog w 0 (fun _=>true) true fuel 3 [v]=some x):∃ n,v=.int .i64 n∧i64 n:=by
 obtain⟨n,hn,_,hw⟩:=DataW.trod_int Tryz.underlying3 h;simp only[List.cons.injEq,and_true] at hn;refine⟨n,hn,?_⟩;simp only[Lit.wf,show IntKind.i64.min=-9223372036854775808 from rfl,show IntKind.i64.max=9223372036854775807 from rfl,Bool.and_eq_true,decide_eq_true_eq] at hw;exact hw
theorem Fl (fuel:Nat)(cs:List Value)(x:DataW H×List MemPlace)(h:DataW.trod enc Tryz.prog w 0 (fun _=>true) true fuel 77 cs=some x):∃ e:It,bt w F (kY e) cs∧True:=by
 obtain⟨hl,n,hg⟩:=lz (tys:=[3,3]) (by kernel_rfl:Tryz.prog.underlying 77=some (.struct (Tryz.prog.fieldsOf 77))) JN JN JN h;obtain⟨_,h0⟩:=hg 0 3 rfl;obtain⟨_,h1⟩:=hg 1 3 rfl;obtain⟨a,ea,_⟩:=m9 h0;obtain⟨b,eb,_⟩:=m9 h1
 match cs,hl with
 | [x0,x1],_=>
  simp only[List.getD_cons_zero,List.getD_cons_succ] at ea eb;exact⟨⟨a,b⟩,by simp[kY,bt,bK,ea,eb],trivial⟩
theorem CX (hF:∀ b,¬ F b){fuel:Nat}{v:Value}{x:DataW H×List MemPlace}(h:DataW.trod enc Tryz.prog w 0 (fun _=>true) true fuel 53 [v]=some x):∃ l:List It,bK w F (eU l) v∧l.length≤9223372036854775807:=by
 obtain⟨l,h1,h2,_⟩:=zK (f:=kY) (n:=2) hF yA iq (fun _=>rfl) (by kernel_rfl:Tryz.prog.underlying 53=some (.slice 77)) JN Fl h;exact⟨l,h1,h2⟩
theorem Fk (hF:∀ b,¬ F b)(fuel:Nat)(cs:List Value)(x:DataW H×List MemPlace)(h:DataW.trod enc Tryz.prog w 0 (fun _=>true) true fuel 55 cs=some x):∃ e:Ru,bt w F (cZ e) cs∧e.items.length≤9223372036854775807:=by
 obtain⟨hl,n,hg⟩:=lz (tys:=[3,4,53]) (by kernel_rfl:Tryz.prog.underlying 55=some (.struct (Tryz.prog.fieldsOf 55))) JN JN JN h;obtain⟨_,h0⟩:=hg 0 3 rfl;obtain⟨_,h1⟩:=hg 1 4 rfl;obtain⟨_,h2⟩:=hg 2 53 rfl;obtain⟨a,ea,_⟩:=m9 h0;obtain⟨b,eb,_⟩:=DataW.trod_bool Tryz.underlying4 h1;obtain⟨l,hv,Mk⟩:=CX hF h2
 match cs,hl with
 | [x0,x1,x2],_=>
  simp only[List.getD_cons_zero,List.getD_cons_succ,List.cons.injEq,and_true] at ea eb hv;refine⟨⟨a,b,l⟩,?_,Mk⟩;simp only[cZ,bt];exact⟨x0,_,rfl,by rw[ea];simp[bK],x1,_,rfl,by rw[eb];simp[bK],x2,_,rfl,hv,rfl⟩
set_option maxRecDepth 100000 in
theorem CW (hF:∀ b,¬ F b){fuel:Nat}{v:Value}{x:DataW H×List MemPlace}(h:DataW.trod enc Tryz.prog w 0 (fun _=>true) true fuel 37 [v]=some x):∃ l:List Ru,bK w F (ct l) v∧l.length≤9223372036854775807∧∀ r∈l,r.items.length≤9223372036854775807:=
 zK (f:=cZ) (n:=3) hF yA cj (fun _=>rfl) (by kernel_rfl:Tryz.prog.underlying 37=some (.slice 55)) JN (Fk hF) h
set_option maxRecDepth 100000 in
theorem Fm (hF:∀ b,¬ F b){r:Reach}{b0:Nat}{v:Value}{d:DataW H}{ps:List MemPlace}(Lg:Value.okWide Tryz.prog w r b0 39 v)(h:DataW.Trod enc Tryz.prog w 0 (fun _=>true) true 39 v d ps):∃ e:Ce,bK w F (oD e) v∧IM e∧e.rules.length≤9223372036854775807∧∀ r∈e.rules,r.items.length≤9223372036854775807:=by
 obtain⟨cs,rfl,JX⟩:=okWide_struct (by kernel_rfl:Tryz.prog.underlying 39=some (.struct (Tryz.prog.fieldsOf 39))) Lg;obtain⟨fuel,hf⟩:=h;simp only[Value.cells] at hf;obtain⟨hl,n,hg⟩:=lz (tys:=[3,3,3,3,37]) (by kernel_rfl:Tryz.prog.underlying 39=some (.struct (Tryz.prog.fieldsOf 39))) JN JN JN hf;obtain⟨_,h0⟩:=hg 0 3 rfl;obtain⟨_,h1⟩:=hg 1 3 rfl;obtain⟨_,h2⟩:=hg 2 3 rfl;obtain⟨_,h3⟩:=hg 3 3 rfl;obtain⟨_,h4⟩:=hg 4 37 rfl;obtain⟨a,ea,_⟩:=m9 h0;obtain⟨b,eb,wb⟩:=m9 h1;obtain⟨c,ec,wc⟩:=m9 h2;obtain⟨e,ee,_⟩:=m9 h3;obtain⟨l,hv,Mk,YY⟩:=CW hF h4;refine⟨⟨a,b,c,e,l⟩,?_,⟨wb,wc⟩,Mk,YY⟩;have Kc:cs.toList=[.int .i64 a,.int .i64 b,.int .i64 c,.int .i64 e,cs.toList.getD 4 undef]:=by
  revert ea eb ec ee hl;generalize cs.toList=q;intro hl ea eb ec ee
  match q,hl with
  | [x0,x1,x2,x3,x4],_=>
   simp only[List.getD_cons_zero,List.getD_cons_succ] at ea eb ec ee ⊢;rw[ea,eb,ec,ee]
 simp only[oD,bK];refine⟨cs.toList,by simp,?_,rfl⟩;rw[Kc];simp only[qz,bt,bK];exact⟨_,_,rfl,rfl,_,_,rfl,rfl,_,_,rfl,rfl,_,_,rfl,rfl,_,_,rfl,hv,rfl⟩
end
end Go.Proofs.YtkkdkhbhamhfgaaGreatDoor
