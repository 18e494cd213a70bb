/- Lemmas. -/
import Derived.Test.YtlkmbdfhdknlgaaGreatW24
set_option maxHeartbeats 2000000
namespace Go.Proofs.YtlkmbdfhdknlgaaGreat
open Go.Can Go.aK List Tryz
theorem uC (u:Un)(pr:Nat)(q:Pr)(hq:u.ps[pr]? = some q)(UO:q.locals<=1000000)(G:List Int)(hG:G.length<=q.locals)(L:List Nat)(hL:L.length<=1000000)(g l:CV)(hg:g=ints G\/(g=.aj/\G=[]))(hl:l=aA L\/(l=.aj/\L=[])):ae prog 31 [cf u,I pr,g,l] (.agg (ed ⟨pr,0,G++replicate (q.locals-G.length) 0,L⟩)):=by
 have Tx:=(List.getElem?_eq_some_iff.1 hq).1;have OZ:=cb (f:=nA) (n:=5) iY hq 3 yA;have b2:8*(q.locals:Int)<=281474976710656:=by omega
 have b3:(q.locals:Int)<=9223372036854775807:=by omega
 have b4:8*(L.length:Int)<=281474976710656:=by omega
 have b5:(L.length:Int)<=9223372036854775807:=by omega
 have tG:trees (G.map dg)=true:=aP G;have tL:=aC L;have SJ:tree (.agg (ed ⟨pr,0,G++replicate (q.locals-G.length) 0,L⟩))=true:=by simp only[tree,dc]
 refine ae.aD af Tryz.func31 rfl Bw (by simp[Tryz.ntmps31]) SJ λ C hC M0=>?_;rw[Tryz.ntmps31] at hC;have eg:xE g=ints G:=by rcases hg with rfl | ⟨rfl,rfl⟩<;>rfl
 have el:xE l=aA L:=by rcases hl with rfl | ⟨rfl,rfl⟩<;>rfl
 refine T.le (Le.nz [2,3] []) ?_;simp[eg,el];clear hg hl eg el;simp only[cf,dk,ints,aA] at *;apply aq;simp[hC];refine T.seq (T.rx af follows [0,1,2,3,4,5,6,7,8,9,10,11,12,13] [(2,10),(2,12),(6,10),(6,12),(7,10),(7,12),(10,12)] Bw ?_);simp[hC,Tx,OZ,nA,b2,b3,b4,b5];refine T.le (Le.trim [9,8,2,3] [14,12,9,1] 16 (by simp[-all_eq_true,-all_flatMap,-all_map,-all_replicate,ai (jt _)]) yA) ?_;simp;have tZ:trees (replicate (q.locals-G.length) (I 0))=true:=jt _;have Wy:min G.length q.locals=G.length:=Nat.min_eq_left hG;have kG:take G.length (G.map dg)=G.map dg:=take_of_length_le xr;have kL:take L.length (L.map λ n:Nat=>I n)=L.map λ n:Nat=>I n:=take_of_length_le xr;refine T.cut (λ s=>s=⟨[(9,.ax 14 0),(8,.ax 1 0),(3,.az (L.map λ n:Nat=>I n) L.length)],[(14,⟨77,0,[I pr,I 0,.a7 9 0 q.locals,.a7 12 0 L.length]⟩),(12,⟨3,1,replicate L.length (I 0)⟩),(9,⟨3,1,G.map dg++replicate (q.locals-G.length) (I 0)⟩),(1,⟨77,0,[I 0,I 0,.aj,.aj]⟩)],16⟩) ?_ ?_
 .by_cases hz:q.locals=0
  .have hG0:G=[]:=length_eq_zero_iff.1 yA;subst hG0;rw[hz];refine T.region (TL.some af 3 ?_);simp[hC];refine TL.Pb af Rg rfl rfl rfl rfl rfl rfl rfl rfl rfl rfl (TL.nil ?_);simp;refine aa.trim [9,8,3] [14,12,9,1] 16 (by simp[-all_eq_true,-all_map,-all_replicate,ai (jt _)]) yA ?_;simp
  .have hp:0<q.locals:=by omega
   apply aM;simp[hC,hp,Wy,kG];refine aa.trim [9,8,3] [14,12,9,1] 16 (by simp[-all_eq_true,-all_map,-all_replicate,ai tG,ai tZ,ai (jt _)]) yA ?_;simp
 .rintro s rfl;refine T.cut (λ s=>s=⟨[(9,.ax 14 0),(8,.ax 1 0)],[(14,⟨77,0,[I pr,I 0,.a7 9 0 q.locals,.a7 12 0 L.length]⟩),(12,⟨3,1,L.map λ n:Nat=>I n⟩),(9,⟨3,1,G.map dg++replicate (q.locals-G.length) (I 0)⟩),(1,⟨77,0,[I 0,I 0,.aj,.aj]⟩)],16⟩) ?_ ?_
  .by_cases hz:L=[]
   .subst hz;refine T.region (TL.some af 3 ?_);simp[hC];refine TL.Pb af Rg rfl rfl rfl rfl rfl rfl rfl rfl rfl rfl (TL.nil ?_);simp;refine aa.trim [9,8] [14,12,9,1] 16 (by simp[-all_eq_true,-all_map,-all_replicate,ai tG,ai tZ]) yA ?_;simp
   .have hp:0<L.length:=length_pos_iff.2 hz;apply aM;simp[hC,hp,kL];refine aa.trim [9,8] [14,12,9,1] 16 (by simp[-all_eq_true,-all_map,-all_replicate,ai tL,ai tG,ai tZ]) yA ?_;simp
  .rintro s rfl;apply aq;simp[hC];have eV:G.map dg++replicate (q.locals-G.length) (I 0)=(G++replicate (q.locals-G.length) 0).map dg:=by simp
   have tV:trees ((G++replicate (q.locals-G.length) 0).map dg)=true:=aP _;have lV:(G++replicate (q.locals-G.length) 0).length=q.locals:=by simp;omega
   rw[eV];generalize G++replicate (q.locals-G.length) 0=V at tV lV;have kV:take q.locals (V.map dg)=V.map dg:=take_of_length_le Tv;apply T.ret;refine aa.le (Le.trim [8] [12,9,1] 16 (by simp[-all_eq_true,-all_map,-all_replicate,ai tL,ai tV]) yA) ?_;simp;refine aa.le (Le.di (o:=12) rfl tL) ?_;simp[cC,kL];refine aa.le (Le.di (o:=9) rfl tV) ?_;simp[cC,kV];apply aa.here;simp[ed,ints,aA,lV]
theorem nr (l:List Int)(hl:l.length<=1000000):ae prog 29 [ints l] (ints l):=by
 have b1:l.length*8<=140737488355328:=by omega
 have tL:trees (l.map dg)=true:=aP l;have kL:take l.length (l.map dg)=l.map dg:=take_of_length_le xr;refine ae.aD af Tryz.func29 rfl Bw (by simp[Tryz.ntmps29]) rfl λ C hC M0=>?_;rw[Tryz.ntmps29] at hC;simp only[ints];apply aq;simp[hC];refine T.seq (T.seq (T.region (TL.some af 1 ?_)));simp[hC];refine TL.Kq af Rg rfl rfl rfl (by simp[ev,assoc];exact⟨rfl,rfl⟩) rfl λ b hb=>TL.nil ?_
 cases b with
 | true=>
  have h0:l=[]:=length_eq_zero_iff.1 (hb rfl);subst h0;simp;refine du ?_;simp;apply aq;simp[hC];apply T.ret;simp only[fz];refine aa.le (Le.nz [2] []) ?_;simp;apply aa.here;simp
 | false=>
  refine gk ?_;simp;apply aq;simp[hC,b1];apply T.ret;refine aa.le (Le.trim [2] [1] 2 (by simp[-all_eq_true,-all_map,ai tL]) yA) ?_;simp;refine aa.le (Le.di (o:=1) rfl tL) ?_;simp[cC,kL];apply aa.here;simp
theorem MF (ms:List Mx)(hm:FI ms):ae prog 30 [.az (ms.flatMap cP) ms.length] (.az ((replicate (bT ms).length (⟨0,0⟩:Ho)).flatMap dN) (bT ms).length):=by
 have he:=vw ms hm;have hn:(bT ms).length=dq ms:=uP ms 0;have hle:=x6 ms hm.2;have Ua:=hm.1;rw[hn];have MY:trees [.az (ms.flatMap cP) ms.length]=true:=by
  have:=dw ms;simp only[trees,tree,Bool.and_self]
 have tT:trees ((replicate (dq ms) (⟨0,0⟩:Ho)).flatMap dN)=true:=ak cm _;have kT:take (dq ms*2) ((replicate (dq ms) (⟨0,0⟩:Ho)).flatMap dN)=(replicate (dq ms) (⟨0,0⟩:Ho)).flatMap dN:=take_of_length_le (by rw[aG dh,length_replicate];omega);have SJ:tree (.az ((replicate (dq ms) (⟨0,0⟩:Ho)).flatMap dN) (dq ms))=true:=by simp only[tree]
 generalize dq ms=n at *;have b4:16*(n:Int)<=281474976710656:=by omega
 have b5:(n:Int)<=9223372036854775807:=by omega
 refine ae.aD af Tryz.func30 rfl Bw (by simp[Tryz.ntmps30]) SJ λ C hC M0=>?_;rw[Tryz.ntmps30] at hC;apply aq;simp[hC];apply aq;simp[hC];refine cS MY he ?_;simp[hC,b4,b5];rw[It];apply T.ret;refine aa.le (Le.trim [2] [0] 1 (by simp[-all_eq_true,-all_flatMap,-all_replicate,ai tT]) yA) ?_;simp;refine aa.le (Le.di (o:=0) rfl tT) ?_;simp[cC,kT];apply aa.here;simp
theorem Nd (u:Un)(hm:FI u.ms)(hg:u.gs.length<=1000000)(q:Pr)(hq:u.ps[u.main]? = some q)(UO:q.locals<=1000000):ae prog 8 [cf u] (cU (qv u)):=by
 have h1:=nr u.gs hg;have h2:=MF u.ms hm;have h3:=uC u u.main q hq UO [] xr [] xr .aj .aj (.inr ⟨rfl,rfl⟩) (.inr ⟨rfl,rfl⟩);have t1:trees [ints u.gs]=true:=by simp only[ints,trees,tree,Bool.and_self]
 have t2:trees [.az (u.ms.flatMap cP) u.ms.length]=true:=by
  have:=dw u.ms;simp only[trees,tree,Bool.and_self]
 have t3:trees [cf u,I u.main,.aj,.aj]=true:=by simp only[trees,tree,cf,bm,Bool.and_self]
 have hn:qv u=⟨u.gs,replicate (bT u.ms).length ⟨0,0⟩,[[⟨u.main,0,replicate q.locals 0,[]⟩]],0⟩:=by simp only[qv,hq]
 rw[hn];have SJ:tree (cU ⟨u.gs,replicate (bT u.ms).length ⟨0,0⟩,[[⟨u.main,0,replicate q.locals 0,[]⟩]],0⟩)=true:=by
  simp only[cU,lJ,tree,trees,de,Bool.and_self]
 generalize bT u.ms=o at *;refine ae.aD af Tryz.func8 rfl Bw (by simp[Tryz.ntmps8]) SJ λ C hC M0=>?_;rw[Tryz.ntmps8] at hC;simp only[cf,dk] at h3 t3 |-;apply aq;simp[hC];refine T.seq (T.rx af follows [0,1,3,4,6,7,8,2,5,9,10,11,12,13,14] [(4,2),(6,2),(6,5),(8,2),(8,5)] Bw ?_);simp[hC];refine RX.call rfl xr rfl rfl rfl t1 h1 ?_;simp;refine RX.call rfl xr rfl rfl rfl t2 h2 ?_;simp;refine RX.call rfl xr rfl rfl rfl t3 h3 ?_;simp[ed,aA,aY];have tT:trees ((replicate o.length (⟨0,0⟩:Ho)).flatMap dN)=true:=ak cm _;have tG:trees (u.gs.map dg)=true:=aP u.gs;have tF:trees [I u.main,I 0,ints (replicate q.locals 0),.az [] 0]=true:=by simp only[trees,tree,de,Bool.and_self]
 apply T.ret;refine aa.le (Le.trim [2] [1,14,12] 17 (by simp[-all_eq_true,-all_flatMap,-all_replicate,ints,-map_replicate,-all_map]) yA) ?_;simp;refine aa.le (Le.di (o:=12) rfl tF) ?_;simp[cC];refine aa.le (Le.di (o:=14) rfl (by simp only[trees,tree,Bool.and_self])) ?_;simp[cC];apply aa.here;simp[cU,lJ,ez,ed,aA]
theorem gh (l:List (List Fr)):l.flatMap ez=l.map λ x=>.az (x.flatMap ed) x.length:=by
 induction l with
 | nil=>rfl
 | cons a r ih=>rw[flatMap_cons,ih];rfl
end Go.Proofs.YtlkmbdfhdknlgaaGreat
namespace Go.Can
open Go.RowKit
section
variable {P:Program}{C:Cx}{U:Nat->Option OB}{s:St}{a:Act}{w:World}{ops:Array Oper}{av:List (Nat×TI)}
theorem Body.OQ {f:FuncId}{args:List CV}{H H1:List (Nat×Ob)}{n m d:Nat}{r0:CV}(l:List Nat)(hl:l.length=n)(h:Body P av f args H n (iO r0 H1 (n+d)))(hk:IU l m=true)(hr:ba n args=true)(hH:dn n H=true) :
  Body P av f (aX (bU l m) args) (bz (bU l m) H) m (iO (cO (bU l m) r0) (bz (bU l m) H1) (m+d)):=by
 subst hl;refine (Body.grow (Gn hk) (EU hk) (λ p hp=>if_neg yA) h hr hH λ r s h=>h.2.2).ret λ r s ⟨r1,s1,h1,h2,h3⟩=>?_;obtain⟨k1,k2,k3⟩:=h1;subst h3;rw[h2,k1,k2];exact⟨rfl,rfl,rfl⟩
theorem TL.er (UT:aF P av){o:Oper}{l:List Oper}{c:Call}{g:FuncId}{args:List CV}{K:St->Prop}{r0:CV}{H H1:List (Nat×Ob)}(ns ks:List Nat)(n d:Nat)(hb:Body P av g args H n (iO r0 H1 (n+d)))(hl:ns.length=n)(hk:IU ns s.nx=true)(hd:bj C.nt o.dst=true)(hg:ca ops s o=Option.some true)(ho:o.op=.call c)(SP:bK s c=Option.some (g,aX (bU ns s.nx) args))
  (hp:eZ s.heap ks=Option.some (bz (bU ns s.nx) H)) (ha:ba n args=true) (hH:dn n H=true) (hx:oy ks s.nx (bz (bU ns s.nx) H1) (eA s.heap ks)=true)
  (hK:TL P C ops l (St.put ⟨s.env,bz (bU ns s.nx) H1++eA s.heap ks,s.nx+d⟩ o.dst (cO (bU ns s.nx) r0)) K):TL P C ops (o::l) s K:=by
 intro a w Q hr hQ;have hw:=eW hr hg;obtain⟨U,hr⟩:=hr;unfold wpList;rw[if_pos hw];refine .inl ?_;have SS:=hb.OQ ns hl hk ha hH;have hen:ka P g:=by
  obtain⟨fn,code,hf,T5,Tu,_⟩:=SS;exact⟨fn,hf,Tu,by simp[T5]⟩
 simp only[oy,Bool.and_eq_true,List.all_eq_true,Bool.or_eq_true,decide_eq_true_eq] at hx;refine s8 UT (pM.of hp) (ql.value ho SP hen) SS ?_ hr _ _ ?_
 .rintro r s1 ⟨_,h1,_⟩ p ob SN h2 h3;rw[h1] at h2;have m3:=hx.2 _ (bA _ _ _ h3);rw[fA] at h3;rcases hx.1 _ (bA _ _ _ h2) with hm | hm
  .rw[if_pos (by simpa using hm)] at h3;cases h3
  .simp only at m3 hm;omega
 .rintro r s1 v w' σ' ⟨h1,h2,h3⟩ S0 hv _;subst h1;rw[h2,h3] at S0;rw[h2] at hv;refine hK _ w' Q ⟨σ',S0.put ?_ hv⟩ hQ;intro t e;rw[S0.tm];rw[e] at hd
  simpa [bj] using hd
variable {W:List u5}{nt N:Nat}{dyn:List (Nat×Nat)}{K:St->Prop}{i:Nat}{r:List Nat}{res:Nat->Er}
theorem RX.er {o:Oper}{cl:Call}{g:FuncId}{args:List CV}{r0:CV}{H H1:List (Nat×Ob)}(ns ks eT:List Nat)(n d:Nat)(hb:Body P av g args H n (iO r0 H1 (n+d)))(hl:ns.length=n)(hk:IU ns s.nx=true)(hi:ops[i]? = Option.some o)(hd:bj nt o.dst=true)(hg:ca ops s o=Option.some true)(hu:cz o=Option.some cl)
  (SP:bK s cl=Option.some (g,aX (bU ns s.nx) args)) (hp:eZ s.heap ks=Option.some (bz (bU ns s.nx) H)) (ha:ba n args=true) (hH:dn n H=true) (hv:Bq dyn res i ks=true) (hc:sZ ks eT s.nx (bz (bU ns s.nx) H1)=true)
  (hs:∀ p∈ks,p∉eT->assoc (bz (bU ns s.nx) H1) p=assoc (bz (bU ns s.nx) H) p)
  (hK:vQ W dyn res i (jg (cO (bU ns s.nx) r0) ks eT d (bz (bU ns s.nx) H1))/\nL av W nt ops N dyn (Ez P av W nt ops N dyn K) r (note dyn res i (jg (cO (bU ns s.nx) r0) ks eT d (bz (bU ns s.nx) H1))) (St.put ⟨s.env,bz (bU ns s.nx) H1++eA s.heap ks,s.nx+d⟩ o.dst (cO (bU ns s.nx) r0))):RX P av W nt ops N dyn K (i::r) res s:=by
 simp only[sZ,Bool.and_eq_true,List.all_eq_true,Bool.or_eq_true,decide_eq_true_eq] at hc;refine RX.body ks eT d hi hd hg hu SP hp (hb.OQ ns hl hk ha hH) hv ?_ ?_
 .rintro v s1 ⟨_,h2,h3⟩;refine⟨h3,λ p ob hpo=>?_,λ p gQ=>?_,λ p gQ=>?_⟩
  .rw[h2] at hpo;rcases hc.1 _ (bA _ _ _ hpo) with h | h
   .exact .inl UA
   .exact .inr h.1
  .rw[h2];by_cases hm:p∈ks
   .exact hs p hm gQ
   .obtain⟨i1,_⟩:=kQ hp;have e1:assoc (bz (bU ns s.nx) H) p=none:=by
     cases h4:assoc (bz (bU ns s.nx) H) p with
     | none=>rfl
     | some y=>exact (hm (i1 p y h4).1).elim
    have e2:assoc (bz (bU ns s.nx) H1) p=none:=by
     cases h4:assoc (bz (bU ns s.nx) H1) p with
     | none=>rfl
     | some y=>
      rcases hc.1 _ (bA _ _ _ h4) with h | h
      .exact (hm UA).elim
      .exact (gQ (by simpa using h.2)).elim
    rw[e1,e2]
  .rw[h2];rcases hc.2 p gQ with h | h
   .exact .inl UA
   .exact .inr h
 .rintro v s1 ⟨h1,h2,_⟩;subst h1;rw[h2];exact hK
end
end Go.Can
namespace Go.Proofs.YtlkmbdfhdknlgaaGreat
open Go.Can Go.aK List Tryz
def hA (s:Sy)(i:Nat):List (Nat×Ob):=[(0,⟨3,1,s.gs.map dg⟩),(1,⟨122,2,s.tb.flatMap dN⟩),(2,⟨81,1,(s.ts.take i).flatMap ez⟩),(5,⟨40,0,[.aj,.aj,.aj,I 0]⟩),(6,⟨40,0,[.a7 0 0 s.gs.length,.a7 1 0 s.tb.length,.a7 2 0 i,I s.fault]⟩)]
def hB (s:Sy)(t:Nat)(l0:List Fr)(f:Fr)(i:Nat):List (Nat×Ob):=[(0,⟨3,1,s.gs.map dg⟩),(1,⟨122,2,s.tb.flatMap dN⟩),(2,⟨81,1,(s.ts.take t).flatMap ez++.a7 3 0 (l0.length+1)::((s.ts.take i).drop (t+1)).flatMap ez⟩),(3,⟨77,4,l0.flatMap ed++[I f.proc,I f.pc,.a7 4 0 f.aV.length,aA f.eD]⟩),(4,⟨3,1,f.aV.map dg⟩),(5,⟨40,0,[.aj,.aj,.aj,I 0]⟩),(6,⟨40,0,[.a7 0 0 s.gs.length,.a7 1 0 s.tb.length,.a7 2 0 i,I s.fault]⟩)]
def Sl (s:Sy):List (Nat×Ob):=[(0,⟨3,1,s.gs.map dg⟩),(1,⟨122,2,s.tb.flatMap dN⟩),(2,⟨81,1,s.ts.flatMap ez⟩),(5,⟨40,0,[.a7 0 0 s.gs.length,.a7 1 0 s.tb.length,.a7 2 0 s.ts.length,I s.fault]⟩)]
def Mq (s:Sy)(t:Nat)(l0:List Fr)(f:Fr):List (Nat×Ob):=[(0,⟨3,1,s.gs.map dg⟩),(1,⟨122,2,s.tb.flatMap dN⟩),(2,⟨81,1,(s.ts.take t).flatMap ez++.a7 3 0 (l0.length+1)::(s.ts.drop (t+1)).flatMap ez⟩),
 (3,⟨77,4,l0.flatMap ed++[I f.proc,I f.pc,.a7 4 0 f.aV.length,aA f.eD]⟩),(4,⟨3,1,f.aV.map dg⟩),(5,⟨40,0,[.a7 0 0 s.gs.length,.a7 1 0 s.tb.length,.a7 2 0 s.ts.length,I s.fault]⟩)]
def eO (s:Sy)(i:Nat):List (Nat×CV):=[(21,I i),(20,I s.ts.length),(19,.az (s.ts.flatMap ez) s.ts.length),(3,.ax 6 0),(2,.ax 5 0)]
def JO (s:Sy)(t:Nat)(l0:List Fr)(f:Fr)(n:Nat)(U:St):Prop:=∃ i:Nat,n=s.ts.length-i/\i<=s.ts.length/\U=⟨eO s i,if i<=t then hA s i else hB s t l0 f i,7⟩
def JF (s:Sy)(i:Nat)(H:List (Nat×Ob))(l:List Fr)(n:Nat)(U:St):Prop:=∃ k:Nat,n=l.length-k/\k<=l.length/\
 U=⟨(28,I k)::(27,I l.length)::(26,.az (l.flatMap ed) l.length)::(6,.a7 8 0 k)::eO s i,(8,⟨77,4,(l.take k).flatMap ed⟩)::H,9⟩
def JT (s:Sy)(i:Nat)(l0 l:List Fr)(f:Fr)(n:Nat)(U:St):Prop:=∃ k:Nat,n=l.length-k/\k<=l.length/\
 U=⟨(28,I k)::(27,I l.length)::(26,.az (l.flatMap ed) l.length)::(6,.a7 8 0 k)::eO s i,if k<=l0.length then (8,⟨77,4,(l.take k).flatMap ed⟩)::hA s i else (8,⟨77,4,l0.flatMap ed++[I f.proc,I f.pc,.a7 9 0 f.aV.length,aA f.eD]⟩)::(9,⟨3,1,f.aV.map dg⟩)::hA s i,10⟩
theorem qg (l:List Nat)(hl:l.length<=1000000):ae prog 29 [aA l] (aA l):=by
 have h:=nr (l.map λ n:Nat=>(n:Int)) yBz;have e:ints (l.map λ n:Nat=>(n:Int))=aA l:=by simp[ints,aA,Function.comp_def]
 rwa [e] at h
set_option maxRecDepth 100000 in
theorem Cs (s:Sy)(t:Nat)(l0:List Fr)(f:Fr)(VE:t<s.ts.length->s.ts[t]? = some (l0++[f]))(h1:s.gs.length<=1000000)(h2:s.tb.length<=1000000)(h3:s.ts.length<=1000000)(h4:∀ l∈s.ts,l.length<=1000000/\∀ f∈l,f.aV.length<=1000000/\f.eD.length<=1000000) :
  Body prog av 41 [cU s] [] 0 (iO (.agg [.a7 0 0 s.gs.length,.a7 1 0 s.tb.length,.a7 2 0 s.ts.length,I s.fault]) (if t<s.ts.length then Mq s t l0 f else Sl s) 6):=by
 have tG:trees (s.gs.map dg)=true:=aP s.gs;have tT:trees (s.tb.flatMap dN)=true:=ak cm _;have tS:trees (s.ts.flatMap ez)=true:=ak b9 _;have rG:=λ ρ=>ah ρ _ tG;have rT:=λ ρ=>ah ρ _ tT;have rS:=λ ρ=>ah ρ _ tS;refine Body.iZ Tryz.func41 rfl Bw (by simp[Tryz.ntmps41]) λ C hC M0=>?_;rw[Tryz.ntmps41] at hC;simp only[cU,lJ];apply aq;simp[hC];refine T.seq (T.rx af follows [0,1,3,4,6,7,9,2,5,8,10] [(1,9),(4,9),(4,2),(7,9),(7,2),(7,5),(9,2),(9,5)] Bw ?_);simp[hC];refine RX.er [] [] [13] 0 1 (z0 s.gs h1) rfl Ts rfl xr rfl rfl rfl rfl rfl rfl Ts (by simp[sZ,bz,bb,assoc,rG,bU]) (λ _ h=>by cases h) ?_;simp[rG,bz,bb,cO,bU];refine RX.er [] [] [14] 0 1 (uT s.tb h2) rfl Ts rfl xr rfl rfl rfl rfl rfl rfl Ts (by simp[sZ,bz,bb,assoc,rT,bU]) (λ _ h=>by cases h) ?_;simp[rT,bz,bb,cO,bU];apply aW;simp[hC];refine T.le (Le.mU 11 2 81 1 rfl rfl) ?_;simp;refine T.le (Le.trim [21,20,19,3,2] [13,14,15,11,1] 16 (by simp[-all_eq_true,-all_flatMap,-all_map,ai tT,ai tG,aT]) yA) ?_;simp;refine T.le (Le.norm [21,20,19,3,2] [(13,0),(14,1),(15,2),(1,5),(11,6)] 0 7 SZ SY (by simp[cB,mZ,lF,tree,assoc,-all_eq_true,-all_flatMap,au tG,au tT]) yA) ?_;simp[cq,bb,aX,cO,ec,assoc,rG,rT];apply T.block;refine T.aI (JO s t l0 f) (n:=s.ts.length) ?_ ?_
 .refine aa.here ⟨0,by omega,by omega,?_⟩;simp[eO,hA]
 .rintro n U ⟨i,rfl,hi,rfl⟩;by_cases Jz:i<s.ts.length
  .obtain⟨l,hli⟩:∃ l,s.ts[i]? = some l:=⟨_,getElem?_eq_getElem Jz⟩;obtain⟨TY,XY⟩:=h4 l (mem_of_getElem? hli);have hdt:=MG hli;have tl:=ak dc l;have wi:=cr ((i:Int)+1) yA yA;have tAi:trees ((s.ts.take i).flatMap ez)=true:=ak b9 _;have rAi:=λ ρ=>ah ρ _ tAi;have rl:=λ ρ=>ah ρ _ tl;have kl:take (l.length*4) (l.flatMap ed)=l.flatMap ed:=take_of_length_le (by rw[aG en];omega);have bi:(i+1)*24<=140737488355328:=by omega
   have li:((s.ts.take i).flatMap ez).length=i:=by rw[aG nJ,length_take,Nat.mul_one];omega
   have TS:(s.ts.take (i+1)).flatMap ez=(s.ts.take i).flatMap ez++ez l:=by rw[take_add_one,hli,flatMap_append];simp
   have ra:∀ ρ (a b:List CV),aX ρ (a++b)=aX ρ a++aX ρ b:=λ ρ a b=>by rw[cd,cd,cd,map_append]
   have tf:trees (l0.flatMap ed)=true:=ak dc _;have tV:trees (f.aV.map dg)=true:=aP f.aV;have S9:trees ((s.ts.take t).flatMap ez)=true:=ak b9 _;have tA3:trees (((s.ts.take i).drop (t+1)).flatMap ez)=true:=ak b9 _;have rf:=λ ρ=>ah ρ _ tf;have rV:=λ ρ=>ah ρ _ tV;have r1:=λ ρ=>ah ρ _ S9;have r3:=λ ρ=>ah ρ _ tA3;rcases Nat.lt_trichotomy i t with SW | SW | SW
   rotate_left
   .subst SW;have hl:=VE Jz;have hle:l=l0++[f]:=Option.some.inj (hli.symm.trans hl);have Uo:l.length=l0.length+1:=by rw[hle];simp
    have hlf0:l[l0.length]? = some f:=by rw[hle];simp
    have htk0:l.take l0.length=l0:=by rw[hle];simp
    rw[if_pos (Nat.le_refl _)];simp only[eO,hA];apply aq;simp[hC,Jz];refine T.seq (T.cond (b:=true) rfl (T.skip ?_));simp;apply eE;apply aq;simp[hC,Jz,hdt,ez];apply aq;simp[hC];apply aW;simp[hC];apply T.block;refine T.aI (JT s i l0 l f) (n:=l.length) ?_ ?_
    .refine aa.le (Le.own 6 77 4 rfl) ?_;simp;refine aa.le (Le.up 10 xr) ?_;simp;refine aa.trim [28,27,26,6,21,20,19,3,2] [8,0,1,2,5,6] 10 yDw yA ⟨0,by omega,by omega,?_⟩;simp[eO,hA]
    .rintro n U ⟨k,rfl,hk,rfl⟩;simp only[eO,hA];by_cases SO:k<l.length
     .by_cases hk0:k<l0.length
      rotate_left
      .have WQ:k=l0.length:=by omega
       subst WQ;rw[if_pos (Nat.le_refl _)];obtain⟨Zh,Z5⟩:=XY f (mem_of_getElem? hlf0);have VI:=aL (f:=ed) (n:=4) en hlf0;have c2:=qg f.eD Z5;have t2:trees [aA f.eD]=true:=by simp only[trees,aE,Bool.and_self]
       have wk:=cr ((l0.length:Int)+1) yA yA;have bk:(l0.length+1)*64<=140737488355328:=by omega
       have lk:(l0.flatMap ed).length=l0.length*4:=aG en _;rw[htk0];apply aq;simp[hC,SO];refine T.seq (T.cond (b:=true) rfl (T.skip ?_));simp;apply eE;apply aq;simp[hC,SO,VI,ed];refine T.rx af follows [0,1,2,3,4,5,6,8,9,7,10,11,12,13,14] [(2,7),(2,10),(4,7),(4,10),(9,7)] Bw ?_;simp[hC];refine RX.er [] [] [26] 0 1 (z0 f.aV Zh) rfl Ts rfl xr rfl rfl rfl rfl rfl rfl Ts (by simp[sZ,bz,bb,assoc,rV,bU]) (λ _ h=>by cases h) ?_;simp[rV,bz,bb,cO,bU];refine RX.call rfl xr rfl rfl rfl t2 c2 ?_;simp[bk,lk,aY,aA,-length_flatMap];apply aM;simp[hC,wk];refine⟨l.length-(l0.length+1),by omega,?_⟩;refine aa.le (Le.norm [28,27,26,6,21,20,19,3,2] [(27,8),(26,9),(0,0),(1,1),(2,2),(5,5),(6,6)] 0 10 SZ SY yDl yA) ?_;simp[cq,bb,aX,cO,ec,assoc,rG,rT,rAi,rf,rV,ra];refine aa.here ⟨l0.length+1,rfl,by omega,?_⟩;rw[if_neg yA];simp[eO,hA,aA]
      rw[if_pos yA];obtain⟨fr,Up⟩:∃ fr,l[k]? = some fr:=⟨_,getElem?_eq_getElem SO⟩;obtain⟨Zh,Z5⟩:=XY fr (mem_of_getElem? Up);have VI:=aL (f:=ed) (n:=4) en Up;have c1:=nr fr.aV Zh;have c2:=qg fr.eD Z5;have t1:trees [ints fr.aV]=true:=by simp only[ints,trees,tree,Bool.and_self]
      have t2:trees [aA fr.eD]=true:=by simp only[trees,aE,Bool.and_self]
      have wk:=cr ((k:Int)+1) yA yA;have bk:(k+1)*64<=140737488355328:=by omega
      have tk:trees ((l.take k).flatMap ed)=true:=ak dc _;have lk:((l.take k).flatMap ed).length=k*4:=by rw[aG en,length_take];congr 1;omega
      have rk:=λ ρ=>ah ρ _ tk;have TZ:(l.take (k+1)).flatMap ed=(l.take k).flatMap ed++ed fr:=by rw[take_add_one,Up,flatMap_append];simp
      apply aq;simp[hC,SO];refine T.seq (T.cond (b:=true) rfl (T.skip ?_));simp;apply eE;apply aq;simp[hC,SO,VI,ed];refine T.rx af follows [0,1,2,3,4,5,6,8,9,7,10,11,12,13,14] [(2,7),(2,10),(4,7),(4,10),(9,7)] Bw ?_;simp[hC];refine RX.call rfl xr rfl rfl rfl t1 c1 ?_;simp;refine RX.call rfl xr rfl rfl rfl t2 c2 ?_;simp[bk,lk,aY,ints,aA,-length_flatMap];apply aM;simp[hC,wk];refine⟨l.length-(k+1),by omega,?_⟩;refine aa.le (Le.norm [28,27,26,6,21,20,19,3,2] [(26,8),(0,0),(1,1),(2,2),(5,5),(6,6)] 0 10 SZ SY yDn yA) ?_;simp[cq,bb,aX,cO,ec,assoc,rG,rT,rAi,rk,ra];refine aa.here ⟨k+1,rfl,by omega,?_⟩;rw[if_pos yA];simp[eO,hA,TZ,ed,ints,aA]
     .have Y0:k=l.length:=by omega
      subst Y0;rw[if_neg yA];apply aq;simp[hC];refine T.seq (T.cond (b:=false) rfl (T.exit ?_));simp;apply aM;simp[hC,bi,li,-length_flatMap];apply aM;simp[hC,wi];refine⟨s.ts.length-(i+1),by omega,?_⟩;simp only[aA];refine aa.le (Le.norm [21,20,19,3,2] [(0,0),(1,1),(11,2),(8,3),(9,4),(5,5),(6,6)] 0 7 SZ SY yDl yA) ?_;simp[cq,bb,aX,cO,ec,assoc,rG,rT,rAi,rf,rV,ra];have OZ:(s.ts.take (i+1)).drop (i+1)=[]:=drop_eq_nil_of_le (by rw[length_take];omega);refine aa.here ⟨i+1,rfl,by omega,?_⟩;rw[if_neg yA];simp[eO,hB,Uo,aA,OZ]
   .rw[if_neg yA];have li3:((s.ts.take t).flatMap ez++.a7 3 0 (l0.length+1)::((s.ts.take i).drop (t+1)).flatMap ez).length=i:=by
     rw[length_append,length_cons,aG nJ,aG nJ,length_take,length_drop,length_take,Nat.mul_one,Nat.mul_one];omega
    have hts3:((s.ts.take (i+1)).drop (t+1)).flatMap ez=((s.ts.take i).drop (t+1)).flatMap ez++ez l:=by
     rw[take_add_one,hli,drop_append_of_le_length (by rw[length_take];omega),flatMap_append];simp
    simp only[eO,hB,aA];apply aq;simp[hC,Jz];refine T.seq (T.cond (b:=true) rfl (T.skip ?_));simp;apply eE;apply aq;simp[hC,Jz,hdt,ez];apply aq;simp[hC];apply aW;simp[hC];apply T.block;refine T.aI (JF s i (hB s t l0 f i) l) (n:=l.length) ?_ ?_
    .refine aa.le (Le.own 6 77 4 rfl) ?_;simp;refine aa.trim [28,27,26,6,21,20,19,3,2] [8,0,1,2,3,4,5,6] 9 (by simp[-all_eq_true,-all_flatMap,-all_map,ai tT,ai tG,ai S9,ai tA3,ai tf,ai tV]) yA ⟨0,by omega,by omega,?_⟩;simp[eO,hB,aA]
    .rintro n U ⟨k,rfl,hk,rfl⟩;simp only[eO,hB,aA];by_cases SO:k<l.length
     .obtain⟨fr,Up⟩:∃ fr,l[k]? = some fr:=⟨_,getElem?_eq_getElem SO⟩;obtain⟨Zh,Z5⟩:=XY fr (mem_of_getElem? Up);have VI:=aL (f:=ed) (n:=4) en Up;have c1:=nr fr.aV Zh;have c2:=qg fr.eD Z5;have t1:trees [ints fr.aV]=true:=by simp only[ints,trees,tree,Bool.and_self]
      have t2:trees [aA fr.eD]=true:=by simp only[trees,aE,Bool.and_self]
      have wk:=cr ((k:Int)+1) yA yA;have bk:(k+1)*64<=140737488355328:=by omega
      have tk:trees ((l.take k).flatMap ed)=true:=ak dc _;have lk:((l.take k).flatMap ed).length=k*4:=by rw[aG en,length_take];congr 1;omega
      have rk:=λ ρ=>ah ρ _ tk;have TZ:(l.take (k+1)).flatMap ed=(l.take k).flatMap ed++ed fr:=by rw[take_add_one,Up,flatMap_append];simp
      apply aq;simp[hC,SO];refine T.seq (T.cond (b:=true) rfl (T.skip ?_));simp;apply eE;apply aq;simp[hC,SO,VI,ed];refine T.rx af follows [0,1,2,3,4,5,6,8,9,7,10,11,12,13,14] [(2,7),(2,10),(4,7),(4,10),(9,7)] Bw ?_;simp[hC];refine RX.call rfl xr rfl rfl rfl t1 c1 ?_;simp;refine RX.call rfl xr rfl rfl rfl t2 c2 ?_;simp[bk,lk,aY,ints,aA,-length_flatMap];apply aM;simp[hC,wk];refine⟨l.length-(k+1),by omega,?_⟩;refine aa.le (Le.norm [28,27,26,6,21,20,19,3,2] [(25,8),(0,0),(1,1),(2,2),(3,3),(4,4),(5,5),(6,6)] 0 9 SZ SY (by simp[cB,mZ,lF,tree,assoc,-all_eq_true,-all_flatMap,au tG,au tT,au S9,au tA3,au tf,au tV,au tk]) yA) ?_;simp[cq,bb,aX,cO,ec,assoc,rG,rT,r1,r3,rf,rV,rk,ra];refine aa.here ⟨k+1,rfl,by omega,?_⟩;simp[eO,TZ,ed,ints,aA]
     .have Y0:k=l.length:=by omega
      subst Y0;apply aq;simp[hC];refine T.seq (T.cond (b:=false) rfl (T.exit ?_));simp;refine T.le (Le.di (o:=8) rfl tl) ?_;simp[cC,aN tT,aN S9,aN tA3,aN tf,aN tV,kl];apply aM;simp[hC,bi,li3,-length_flatMap];apply aM;simp[hC,wi];refine⟨s.ts.length-(i+1),by omega,?_⟩;refine aa.le (Le.norm [21,20,19,3,2] [(0,0),(1,1),(10,2),(3,3),(4,4),(5,5),(6,6)] 0 7 SZ SY (by simp[cB,mZ,lF,tree,assoc,-all_eq_true,-all_flatMap,au tG,au tT,au S9,au tA3,au tf,au tV]) yA) ?_;simp[cq,bb,aX,cO,ec,assoc,rG,rT,r1,r3,rf,rV,ra];refine aa.here ⟨i+1,rfl,by omega,?_⟩;rw[if_neg yA];simp[eO,hB,hts3,ez,aA]
   .rw[if_pos yA];simp only[eO,hA];apply aq;simp[hC,Jz];refine T.seq (T.cond (b:=true) rfl (T.skip ?_));simp;apply eE;apply aq;simp[hC,Jz,hdt,ez];apply aq;simp[hC];apply aW;simp[hC];apply T.block;refine T.aI (JF s i (hA s i) l) (n:=l.length) ?_ ?_
    .refine aa.le (Le.own 6 77 4 rfl) ?_;simp;refine aa.trim [28,27,26,6,21,20,19,3,2] [8,0,1,2,5,6] 9 yDw yA ⟨0,by omega,by omega,?_⟩;simp[eO,hA]
    .rintro n U ⟨k,rfl,hk,rfl⟩;simp only[eO,hA];by_cases SO:k<l.length
     .obtain⟨fr,Up⟩:∃ fr,l[k]? = some fr:=⟨_,getElem?_eq_getElem SO⟩;obtain⟨Zh,Z5⟩:=XY fr (mem_of_getElem? Up);have VI:=aL (f:=ed) (n:=4) en Up;have c1:=nr fr.aV Zh;have c2:=qg fr.eD Z5;have t1:trees [ints fr.aV]=true:=by simp only[ints,trees,tree,Bool.and_self]
      have t2:trees [aA fr.eD]=true:=by simp only[trees,aE,Bool.and_self]
      have wk:=cr ((k:Int)+1) yA yA;have bk:(k+1)*64<=140737488355328:=by omega
      have tk:trees ((l.take k).flatMap ed)=true:=ak dc _;have lk:((l.take k).flatMap ed).length=k*4:=by rw[aG en,length_take];congr 1;omega
      have rk:=λ ρ=>ah ρ _ tk;have TZ:(l.take (k+1)).flatMap ed=(l.take k).flatMap ed++ed fr:=by rw[take_add_one,Up,flatMap_append];simp
      apply aq;simp[hC,SO];refine T.seq (T.cond (b:=true) rfl (T.skip ?_));simp;apply eE;apply aq;simp[hC,SO,VI,ed];refine T.rx af follows [0,1,2,3,4,5,6,8,9,7,10,11,12,13,14] [(2,7),(2,10),(4,7),(4,10),(9,7)] Bw ?_;simp[hC];refine RX.call rfl xr rfl rfl rfl t1 c1 ?_;simp;refine RX.call rfl xr rfl rfl rfl t2 c2 ?_;simp[bk,lk,aY,ints,aA,-length_flatMap];apply aM;simp[hC,wk];refine⟨l.length-(k+1),by omega,?_⟩;refine aa.le (Le.norm [28,27,26,6,21,20,19,3,2] [(25,8),(0,0),(1,1),(2,2),(5,5),(6,6)] 0 9 SZ SY yDn yA) ?_;simp[cq,bb,aX,cO,ec,assoc,rG,rT,rAi,rk,ra];refine aa.here ⟨k+1,rfl,by omega,?_⟩;simp[eO,TZ,ed,ints,aA]
     .have Y0:k=l.length:=by omega
      subst Y0;apply aq;simp[hC];refine T.seq (T.cond (b:=false) rfl (T.exit ?_));simp;refine T.le (Le.di (o:=8) rfl tl) ?_;simp[cC,aN tT,aN tAi,kl];apply aM;simp[hC,bi,li,-length_flatMap];apply aM;simp[hC,wi];refine⟨s.ts.length-(i+1),by omega,?_⟩;refine aa.le (Le.norm [21,20,19,3,2] [(0,0),(1,1),(10,2),(5,5),(6,6)] 0 7 SZ SY (by simp[cB,mZ,lF,tree,assoc,-all_eq_true,-all_flatMap,au tG,au tT,au tAi]) yA) ?_;simp[cq,bb,aX,cO,ec,assoc,rG,rT,rAi,ra];refine aa.here ⟨i+1,rfl,by omega,?_⟩;rw[if_pos yA];simp[eO,hA,TS,ez]
  .have Rz:i=s.ts.length:=by omega
   subst Rz;by_cases SM:t<s.ts.length
   rotate_left
   .rw[if_pos yA,if_neg SM];simp only[eO,hA,Sl,take_length];apply aq;simp[hC];refine T.seq (T.cond (b:=false) rfl (T.exit ?_));simp;apply aq;simp[hC];apply T.ret;refine aa.le (Le.norm [2] [(0,0),(1,1),(2,2),(5,5)] 0 6 SZ SY yDc yA) ?_;simp[cq,bb,aX,cO,ec,assoc,rG,rT,rS];exact aa.here ⟨_,rfl,rfl,rfl,rfl⟩
   have hnt:¬ s.ts.length<=t:=by omega
   rw[if_neg hnt,if_pos SM];have tf:trees (l0.flatMap ed)=true:=ak dc _;have tV:trees (f.aV.map dg)=true:=aP f.aV;have tE:=aC f.eD;have S9:trees ((s.ts.take t).flatMap ez)=true:=ak b9 _;have Ti:trees ((s.ts.drop (t+1)).flatMap ez)=true:=ak b9 _;have rL:=λ ρ=>ah ρ _ tf;have rV:=λ ρ=>ah ρ _ tV;have rE:=λ ρ=>ah ρ _ tE;have r1:=λ ρ=>ah ρ _ S9;have r2:=λ ρ=>ah ρ _ Ti;have ra:∀ ρ (a b:List CV),aX ρ (a++b)=aX ρ a++aX ρ b:=λ ρ a b=>by rw[cd,cd,cd,map_append]
   simp only[eO,hB,Mq,take_length,aA];apply aq;simp[hC];refine T.seq (T.cond (b:=false) rfl (T.exit ?_));simp;apply aq;simp[hC];apply T.ret;refine aa.le (Le.norm [2] [(0,0),(1,1),(2,2),(3,3),(4,4),(5,5)] 0 6 SZ SY (by simp[cB,mZ,lF,tree,assoc,-all_eq_true,-all_flatMap,au tG,au tT,au tf,au tV,au S9,au Ti]) yA) ?_;simp[cq,bb,aX,cO,ec,assoc,rG,rT,rL,rV,r1,r2,ra];exact aa.here ⟨_,rfl,rfl,rfl,rfl⟩
structure Hj (s:Sy):Prop where
 g:s.gs.length<=1000000
 b:s.tb.length<=1000000
 t:s.ts.length<=1000000
 f:∀ l∈s.ts,l.length<=1000000/\∀ f∈l,f.aV.length<=1000000/\f.eD.length<=1000000
theorem Fp (s:Sy)(hs:Hj s):Body prog av 41 [cU s] [] 0 (iO (.agg [.a7 0 0 s.gs.length,.a7 1 0 s.tb.length,.a7 2 0 s.ts.length,I s.fault]) (Sl s) 6):=by
 have h:=Cs s s.ts.length [] ⟨0,0,[],[]⟩ (λ h=>absurd h (Nat.lt_irrefl _)) hs.g hs.b hs.t hs.f;rwa [if_neg (Nat.lt_irrefl _)] at h
theorem cI (s:Sy):tree (cU s)=true:=by
 simp only[cU,lJ,tree,trees,de,Bool.and_self]
theorem jA (s:Sy)(hs:Hj s)(fa:Nat):ae prog 91 [cU s,I fa] (.cF [cU ⟨s.gs,s.tb,s.ts,fa⟩,.bool true]):=by
 have TV:=Fp s hs;have tG:trees (s.gs.map dg)=true:=aP s.gs;have tT:trees (s.tb.flatMap dN)=true:=ak cm _;have tS:trees (s.ts.flatMap ez)=true:=ak b9 _;have rG:=λ ρ=>ah ρ _ tG;have rT:=λ ρ=>ah ρ _ tT;have rS:=λ ρ=>ah ρ _ tS;have kG:take s.gs.length (s.gs.map dg)=s.gs.map dg:=take_of_length_le xr;have kT:take (s.tb.length*2) (s.tb.flatMap dN)=s.tb.flatMap dN:=take_of_length_le yBl;have kS:take s.ts.length (s.ts.flatMap ez)=s.ts.flatMap ez:=take_of_length_le (by rw[aG nJ];omega);refine ae.aD af Tryz.func91 rfl Bw (by simp[Tryz.ntmps91]) (by simp only[tree,trees,cI,Bool.and_self]) λ C hC M0=>?_;rw[Tryz.ntmps91] at hC;simp only[cU,lJ,ints,Sl] at *;apply aq;simp[hC];apply aq;simp[hC];refine TL.er af [] [] 0 6 (TV) rfl Ts Rg rfl rfl Ta Ta Xe Ta Ta (TL.go' af ?_);simp[bz,bb,aX,cO,bU,rG,rT,rS];apply aq;simp[hC];apply aq;simp[hC];apply T.ret;refine aa.le (Le.trim [5,4] [1,2,3,4] 8 (by simp[-all_eq_true,-all_map,-all_flatMap,ai tG,ai tT,ai tS]) yA) ?_;simp;refine aa.le (Le.di (o:=2) rfl tG) ?_;simp[cC,kG,aN tT,aN tS];refine aa.le (Le.di (o:=3) rfl tT) ?_;simp[cC,kT,aN tS];refine aa.le (Le.di (o:=4) rfl tS) ?_;simp[cC,kS];apply aa.here;simp
theorem ld (g b m t n p c v e:Nat)(A B D E V:List CV)(hA:trees A=true)(hB:trees B=true)(hD:trees D=true)(hE:trees E=true)(hV:trees V=true)(y:CV)(hy:y=.a7 1 0 b\/∃ Z,y=.az Z b)(lA:A.length=t)(lD:D.length=n*4)(ht:t<m)(_hm:m<=1000000)(hn:n<=1000000) :
  Body prog av 45 [.agg [.a7 0 0 g,y,.a7 2 0 m,I 0],I t] [(2,⟨81,1,A++.a7 3 0 (n+1)::B⟩),(3,⟨77,4,D++[I p,I c,.a7 4 0 v,.az E e]⟩),(4,⟨3,1,V⟩)] 5
   (iO (.ax 3 (n*4)) [(2,⟨81,1,A++.a7 3 0 (n+1)::B⟩),(3,⟨77,4,D++[I p,I c,.a7 4 0 v,.az E e]⟩),(4,⟨3,1,V⟩)] 5):=by
 have dA:∀ r:List CV,(A++r).drop t=r:=λ r=>by rw[<- lA];simp
 have w1:=cr (n:Int) yA yA;have w2:(n:Int)<(n:Int)+1:=by omega
 have h0:¬ ((t:Int)<0):=by omega
 have Vs:¬ (m<=t):=by omega
 have hlz:(((n:Int)+1) == 0)=false:=by rw[beq_eq_false_iff_ne];omega
 have rA:=λ ρ=>ah ρ _ hA;have rB:=λ ρ=>ah ρ _ hB;have rD:=λ ρ=>ah ρ _ hD;have rE:=λ ρ=>ah ρ _ hE;have rV:=λ ρ=>ah ρ _ hV;have ra:∀ ρ (a b:List CV),aX ρ (a++b)=aX ρ a++aX ρ b:=λ ρ a b=>by rw[cd,cd,cd,map_append]
 rcases hy with rfl | ⟨Z,rfl⟩
 all_goals
  refine Body.iZ Tryz.func45 rfl Bw (by simp[Tryz.ntmps45]) λ C hC M0=>?_;rw[Tryz.ntmps45] at hC;apply aq;simp[hC];apply aW;simp[hC,h0,Vs,ht,dA,hlz];refine gk ?_;simp;apply aq;simp[hC,ht,dA];apply aq;simp[hC,w1,w2];apply T.ret;refine aa.le (Le.norm [4] [(2,2),(3,3),(4,4)] 5 5 SZ SY (by simp[cB,mZ,lF,tree,assoc,-all_eq_true,-all_flatMap,au hA,au hB,au hD,au hV]) yA) ?_;simp[cq,bb,aX,cO,ec,assoc,rA,rB,rD,rV,ra];exact aa.here ⟨_,rfl,rfl,rfl,rfl⟩
theorem wQ:∀ (n:Nat) {l:List CV},trees l=true->trees (l.take n)=true
 | 0,_,_=>by simp
 | n+1,[],_=>by simp
 | n+1,x::r,h=>by
  simp only[trees,Bool.and_eq_true] at h;simp only[take_succ_cons,trees,h.1,wQ n h.2,Bool.and_self]
theorem Dg {C:Cx}{K:St->Prop}{r q N:Nat}{bo:Bool}{G T A B D E V X:List CV}{g b m n v e:Nat}{p c fa:Int}(hG:trees G=true)(_hT:trees T=true)(hA:trees A=true)(hB:trees B=true)(hD:trees D=true)(_hE:trees E=true)(hV:trees V=true)(hX:trees X=true)
  (lG:G.length=g) (lA:A.length+1+B.length=m) (lV:V.length=v)
  (h:K ⟨[(q,.bool bo),(r,.ax 5 0)],[(5,⟨40,0,[.az G g,.az T b,.az (A++.az ((D++I p::I c :: .az V v :: .az E e::X).take (n*4)) n::B) m,I fa]⟩)],N⟩) :
  aa C K ⟨[(q,.bool bo),(r,.ax 5 0)],[(0,⟨3,1,G⟩),(2,⟨81,1,A++.a7 3 0 n::B⟩),(3,⟨77,4,D++I p::I c :: .a7 4 0 v :: .az E e::X⟩),(4,⟨3,1,V⟩),(5,⟨40,0,[.a7 0 0 g,.az T b,.a7 2 0 m,I fa]⟩)],N⟩:=by
 have kG:take g G=G:=take_of_length_le yA;have kV:take v V=V:=take_of_length_le yA;refine aa.le (Le.di (o:=4) rfl hV) ?_;simp[kV,aN hG,aN hD,aN hA,aN hB,aN hX];refine aa.le (Le.di (o:=0) rfl hG) ?_;simp[kG,aN hD,aN hA,aN hB,aN hX];have tF:trees (D++I p::I c :: .az V v :: .az E e::X)=true:=by
  rw[a9,hD];simp only[trees,tree,hX,Bool.and_self]
 refine aa.le (Le.di (o:=3) rfl tF) ?_;simp[aN hA,aN hB];have tH:trees (A++.az ((D++I p::I c :: .az V v :: .az E e::X).take (n*4)) n::B)=true:=by
  have:=wQ (n*4) tF;simp only[a9,hA,trees,hB,tree,Bool.and_self]
 have kH:∀ x:CV,take m (A++x::B)=A++x::B:=λ x=>take_of_length_le Tv;refine aa.le (Le.di (o:=2) rfl tH) ?_;simp[kH];exact aa.here h
theorem lY {C:Cx}{K:St->Prop}{r q N:Nat}{bo:Bool}{G T A B D E V X:List CV}{g b m n v e:Nat}{p c fa:Int}(hG:trees G=true)(hT:trees T=true)(hA:trees A=true)(hB:trees B=true)(hD:trees D=true)(hE:trees E=true)(hV:trees V=true)(hX:trees X=true)
  (lG:G.length=g) (lT:T.length=b*2) (lA:A.length+1+B.length=m) (lV:V.length=v)
  (h:K ⟨[(q,.bool bo),(r,.ax 5 0)],[(5,⟨40,0,[.az G g,.az T b,.az (A++.az ((D++I p::I c :: .az V v :: .az E e::X).take (n*4)) n::B) m,I fa]⟩)],N⟩) :
  aa C K ⟨[(q,.bool bo),(r,.ax 5 0)],[(0,⟨3,1,G⟩),(1,⟨122,2,T⟩),(2,⟨81,1,A++.a7 3 0 n::B⟩),(3,⟨77,4,D++I p::I c :: .a7 4 0 v :: .az E e::X⟩),(4,⟨3,1,V⟩),(5,⟨40,0,[.a7 0 0 g,.a7 1 0 b,.a7 2 0 m,I fa]⟩)],N⟩:=by
 have kT:take (b*2) T=T:=take_of_length_le yA;refine aa.le (Le.di (o:=1) rfl hT) ?_;simp[kT,aN hV,aN hG,aN hD,aN hA,aN hB,aN hX];exact Dg hG hT hA hB hD hE hV hX lG lA lV h
def bV (u:Un)(s:Sy)(t:Int)(p:Pl):Int×Nat:=match eX s t with
 | none=>(0,0)
 | some f=>if p.param=true then (((f.eD.getD p.index 0:Nat):Int),0) else
   if (ir u.ms s.gs f.aV p).2=0 then (wr (DJ u.ms p.index+(ir u.ms s.gs f.aV p).1),0) else (0,(ir u.ms s.gs f.aV p).2)
def df (gs ls:List Int):List Ex->List Int×Nat
 | []=>([],0)
 | e::r=>if (bO gs ls e).2=0 then ((bO gs ls e).1::(df gs ls r).1,(df gs ls r).2) else ([],(bO gs ls e).2)
def dv (u:Un)(s:Sy)(t:Int):List Pl->List Nat×Nat
 | []=>([],0)
 | p::r=>if (bV u s t p).2=0 then ((bV u s t p).1.toNat::(dv u s t r).1,(dv u s t r).2) else ([],(bV u s t p).2)
def ny (u:Un)(s:Sy)(t:Int)(f:Fr)(tg n:Nat)(es:List Ex)(ps:List Pl):Fr×Nat:=
 if (df s.gs f.aV es).2=0 then
  (if (dv u s t ps).2=0 then (⟨tg,0,(df s.gs f.aV es).1++replicate (n-es.length) 0,(dv u s t ps).1⟩,0)
   else (⟨tg,0,(df s.gs f.aV es).1,(dv u s t ps).1⟩,(dv u s t ps).2))
 else (⟨tg,0,(df s.gs f.aV es).1,[]⟩,(df s.gs f.aV es).2)
theorem ot (i m:Nat)(h:i≠m)(L:List Nat):∀ (n j:Nat),pH (replicate n i++L) m j=pH L m (j+n)
 | 0,j=>by simp
 | n+1,j=>by
  rw[replicate_succ,cons_append,pH,if_neg h,ot i m h L n (j+1)];congr 1;omega
theorem z9 (m:Nat):∀ (ms:List Mx) (i j:Nat) (x:Mx),i<=m->ms[m-i]? = some x->∃ k:Nat,pH (cG ms i) m j=k/\k+max x.size 1<=j+(cG ms i).length
 | [],i,j,x,_,h=>by simp at h
 | y::r,i,j,x,hi,h=>by
  rw[cG];by_cases he:i=m
  .subst he;simp at h;subst h;refine⟨j,?_,by simp⟩;obtain⟨n,hn⟩:∃ n,max y.size 1=n+1:=⟨max y.size 1-1,by omega⟩;rw[hn,replicate_succ,cons_append,pH,if_pos rfl]
  .rw[ot i m he];have h2:r[m-(i+1)]? = some x:=by
    have:m-i=(m-(i+1))+1:=by omega
    rw[this,getElem?_cons_succ] at h;exact h
   obtain⟨k,h3,h4⟩:=z9 m r (i+1) (j+max y.size 1) x yA h2;exact⟨k,h3,by simp;omega⟩
theorem kB (u:Un)(s:Sy)(t:Int)(p:Pl)(hm:FI u.ms)(f:Fr)(ht:eX s t=some f)(hv:wM u.ms s.gs.length f.aV.length f.eD.length p):∃ n:Nat,(bV u s t p).1=n:=by
 unfold bV;rw[ht];by_cases hp:p.param=true
 .exact⟨f.eD.getD p.index 0,by simp only[if_pos hp]⟩
 simp only[if_neg hp];split
 .rename_i hf;rcases hv with h | ⟨_,m,TF,h⟩
  .exact (hp h.1).elim
  obtain⟨k,hk,SO⟩:=z9 p.index u.ms 0 0 m yA (by simpa using TF);have ZY:=pe u.ms 0 hm.2;have hm1:=hm.1;obtain⟨j,hj,Tl⟩:∃ j:Nat,(ir u.ms s.gs f.aV p).1=j/\j<=max m.size 1:=by
   unfold ir at hf |-;rcases h with ⟨h,_⟩ | ⟨e,h,_⟩
   .rw[h];exact⟨0,rfl,by omega⟩
   .rw[h] at hf |-;simp only[TF] at hf |-;split
    .rename_i h1;rw[if_pos h1] at hf;split
     .exact⟨0,rfl,by omega⟩
     .rename_i h2;exact⟨(bO s.gs f.aV e).1.toNat,by simp only;omega,by omega⟩
    .exact⟨0,rfl,by omega⟩
  refine⟨k+j,?_⟩;rw[show DJ u.ms p.index=(k:Int) from hk,hj,wr,cr _ yA yA];omega
 .exact⟨0,rfl⟩
theorem um {α:Type}(f:α->List CV){l:List α}{i:Nat}{x:α}(h:l[i]? = some x):(l.take i).flatMap f++f x=(l.take (i+1)).flatMap f:=by
 rw[take_add_one,h,flatMap_append];simp
def J77n (e:Ex)(n:Nat)(s:St):Prop:=∃ i:Nat,n=e.args.length-i/\i<=e.args.length/\
 s=⟨[(11,I i),(10,I e.args.length),(9,.az (e.args.flatMap bf) e.args.length),(2,.ax 1 0),(1,.ax 0 0)],[(2,⟨85,4,(e.args.take i).flatMap bf⟩),(1,⟨85,0,[I 0,I 0,.str eS,.aj]⟩),(0,⟨85,0,[I e.op,I e.n,.str e.name,.a7 2 0 i]⟩)],3⟩
theorem Ex.L4 (e:Ex):e.args.length<=2:=by cases e<;>simp[Ex.args]
theorem KD (e:Ex)(ih:∀ a∈e.args,ae prog 75 [.agg (bf a)] (.agg (bf a))):ae prog 75 [.agg (bf e)] (.agg (bf e)):=by
 have hlen:=Ex.L4 e;have tA:trees (e.args.flatMap bf)=true:=ak aO _;have SJ:tree (.agg (bf e))=true:=by simp only[tree,aO]
 refine ae.aD af Tryz.func75 rfl Bw (by simp[Tryz.ntmps75]) SJ λ C hC M0=>?_;rw[Tryz.ntmps75] at hC;rw[bZ e];apply aq;simp[hC];apply aq;simp[hC];apply aq;simp[hC];apply aW;simp[hC];apply T.block;refine T.aI (J77n e) (n:=e.args.length) ?_ ?_
 .refine aa.le (Le.mU 0 3 85 4 rfl rfl) ?_;simp;refine aa.trim [11,10,9,2,1] [2,1,0] 3 Vn yA ⟨0,by omega,by omega,?_⟩;simp[eS]
 .rintro n s ⟨i,rfl,hi,rfl⟩;by_cases Jz:i<e.args.length
  .obtain⟨a,XN⟩:∃ a,e.args[i]? = some a:=⟨_,getElem?_eq_getElem Jz⟩;have Ye:=ih a (mem_of_getElem? XN);have MY:trees [.agg (bf a)]=true:=by simp only[trees,tree,aO,Bool.and_self]
   have WS:=aL (f:=bf) (n:=4) bC XN;have YB:=aG bC (e.args.take i);have SE:=um bf XN;have wi:=cr ((i:Int)+1) yA yA;obtain⟨a1,a2,a3,a4,a5,Zy,tea⟩:=gf a;rw[Zy] at WS Ye MY SE;have tB:trees ((e.args.take i).flatMap bf)=true:=ak aO _;have tC:trees ((e.args.take (i+1)).flatMap bf)=true:=ak aO _;have Uo:(e.args.take i).length=i:=by simp;omega
   rw[Uo] at YB;have b1:(i+1)*56<=140737488355328:=by omega
   have b2:i*4+4=(i+1)*4:=by omega
   generalize (e.args.take i).flatMap bf=B at YB SE tB;apply aq;simp[hC,Jz];refine T.seq (T.cond (b:=true) rfl (T.skip ?_));simp;apply eE;apply aq;simp[hC,Jz,WS];refine T.rx af follows [0,1,2,3,4,5,6,7] [(1,3),(1,4)] Bw ?_;simp[hC];refine RX.call rfl rfl rfl rfl rfl MY Ye ?_;simp[YB,b1,aY];apply aM;simp[hC,wi];refine⟨e.args.length-(i+1),by omega,?_⟩;have YV:trees (B++[I a1,I a2,.str a3,.az a4 a5])=true:=by rw[SE];exact tC
   have Zf:=λ ρ=>ah ρ _ YV;have rA:=λ ρ=>ah ρ _ tA;refine aa.le (Le.norm [11,10,9,2,1] [(12,2),(1,1),(0,0)] 0 3 SZ SY yCj yA) ?_;simp[cq,bb,aX,cO,ec,assoc,Zf];refine aa.here ⟨i+1,rfl,by omega,?_⟩;rw[<- SE];simp
  .have Rz:i=e.args.length:=by omega
   subst Rz;apply aq;simp[hC];apply T.seq;refine T.cond (b:=false) Tt ?_;simp;apply T.exit;simp;apply aq;simp[hC];apply T.ret;have hkA:take (e.args.length*4) (e.args.flatMap bf)=e.args.flatMap bf:=take_of_length_le (by rw[aG bC];omega);refine aa.le (Le.trim [2] [1,2] 3 (by simp[-all_eq_true,-all_flatMap,-all_map,ai tA]) yA) ?_;simp;refine aa.le (Le.di (o:=2) rfl tA) ?_;simp[hkA];apply aa.here;simp
theorem Ex.Ow:∀ (e a:Ex),a∈e.args->SizeOf.sizeOf a<SizeOf.sizeOf e
 | .un _ e,a,h=>by
  simp only[Ex.args,mem_singleton] at h;subst h;simp;omega
 | .bin _ x y,a,h=>by
  simp only[Ex.args,mem_cons,not_mem_nil,or_false] at h;rcases h with rfl | rfl<;>simp<;>omega
 | .zero,a,h=>by cases h
 | .num _,a,h=>by cases h
 | .nm _,a,h=>by cases h
 | .loc _,a,h=>by cases h
 | .jE _,a,h=>by cases h
theorem xI (e:Ex):ae prog 75 [.agg (bf e)] (.agg (bf e)):=
 KD e λ a _ha=>xI a
termination_by SizeOf.sizeOf e
decreasing_by exact Ex.Ow e a _ha
def J79 (l:List Ex)(n:Nat)(s:St):Prop:=∃ i:Nat,n=l.length-i/\i<=l.length/\
 s=⟨[(8,I i),(7,I l.length),(6,.az (l.flatMap bf) l.length),(3,.a7 0 0 i)],[(0,⟨85,4,(l.take i).flatMap bf⟩)],1⟩
theorem zK (l:List Ex)(hl:l.length<=1000):ae prog 77 [.az (l.flatMap bf) l.length] (.az (l.flatMap bf) l.length):=by
 have tA:trees (l.flatMap bf)=true:=ak aO _;have SJ:tree (.az (l.flatMap bf) l.length)=true:=by simp only[tree]
 refine ae.aD af Tryz.func77 rfl Bw (by simp[Tryz.ntmps77]) SJ λ C hC M0=>?_;rw[Tryz.ntmps77] at hC;apply aq;simp[hC];apply aq;simp[hC];apply aW;simp[hC];apply T.block;refine T.aI (J79 l) (n:=l.length) ?_ ?_
 .refine aa.le (Le.own 3 85 4 rfl) ?_;simp[St.own];refine aa.trim [8,7,6,3] [0] 1 Vn yA ⟨0,by omega,by omega,?_⟩;simp
 .rintro n s ⟨i,rfl,hi,rfl⟩;by_cases Jz:i<l.length
  .obtain⟨a,XN⟩:∃ a,l[i]? = some a:=⟨_,getElem?_eq_getElem Jz⟩;have Ye:=xI a;have MY:trees [.agg (bf a)]=true:=by simp only[trees,tree,aO,Bool.and_self]
   have WS:=aL (f:=bf) (n:=4) bC XN;have YB:=aG bC (l.take i);have SE:=um bf XN;have wi:=cr ((i:Int)+1) yA yA;obtain⟨a1,a2,a3,a4,a5,Zy,tea⟩:=gf a;rw[Zy] at WS Ye MY SE;have tB:trees ((l.take i).flatMap bf)=true:=ak aO _;have tC:trees ((l.take (i+1)).flatMap bf)=true:=ak aO _;have Uo:(l.take i).length=i:=by simp;omega
   rw[Uo] at YB;have b1:(i+1)*56<=140737488355328:=by omega
   have b2:i*4+4=(i+1)*4:=by omega
   generalize (l.take i).flatMap bf=B at YB SE tB;apply aq;simp[hC,Jz];refine T.seq (T.cond (b:=true) rfl (T.skip ?_));simp;apply eE;apply aq;simp[hC,Jz,WS];apply aM;simp[hC];refine cS MY Ye ?_;simp[hC,YB,b1,aY];apply aM;simp[hC,wi];refine⟨l.length-(i+1),by omega,?_⟩;have YV:trees (B++[I a1,I a2,.str a3,.az a4 a5])=true:=by rw[SE];exact tC
   have Zf:=λ ρ=>ah ρ _ YV;have rA:=λ ρ=>ah ρ _ tA;refine aa.le (Le.norm [8,7,6,3] [(3,0)] 0 1 SZ SY yCj yA) ?_;simp[cq,bb,cO,ec,assoc,Zf];refine aa.here ⟨i+1,rfl,by omega,?_⟩;rw[<- SE];simp
  .have Rz:i=l.length:=by omega
   subst Rz;apply aq;simp[hC];apply T.seq;refine T.cond (b:=false) Tt ?_;simp;apply T.exit;simp;apply aq;simp[hC];apply T.ret;have hkA:take (l.length*4) (l.flatMap bf)=l.flatMap bf:=take_of_length_le (by rw[aG bC];omega);refine aa.le (Le.trim [2] [0] 1 (by simp[-all_eq_true,-all_flatMap,-all_map,ai tA]) yA) ?_;simp;refine aa.le (Le.di (o:=0) rfl tA) ?_;simp[hkA];apply aa.here;simp
def OV (p:Pl):List Ex:=match p.at_ with
 | some e=>[e]
 | none=>[]
theorem Np (p:Pl):oL p.at_=.az ((OV p).flatMap bf) (OV p).length:=by
 unfold OV;cases p.at_<;>simp[oL]
theorem Nf (p:Pl):(OV p).length<=1:=by
 unfold OV;cases p.at_<;>simp
theorem zG (p:Pl):ae prog 76 [.agg (iq p)] (.agg (iq p)):=by
 have hx:=zK (OV p) (by have:=Nf p;omega);have MY:trees [.az ((OV p).flatMap bf) (OV p).length]=true:=by simp only[trees,tree,Bool.and_self]
 have SJ:tree (.agg (iq p))=true:=by simp only[tree,db]
 refine ae.aD af Tryz.func76 rfl Bw (by simp[Tryz.ntmps76]) SJ λ C hC M0=>?_;rw[Tryz.ntmps76] at hC;simp only[iq,Np];apply aq;simp[hC];apply aq;simp[hC];refine cS MY hx ?_;simp[hC];apply aq;simp[hC];apply T.ret;apply aa.here;simp[Tryz.results76]
def uk:Option Fr->CV
 | some f=>.cM (ed f)
 | none=>.bL
theorem sC (s:Sy)(t:Int)(hb:s.ts.length<=1000000/\∀ l∈s.ts,l.length<=1000000):ae prog 45 [cU s,I t] (uk (eX s t)):=by
 have SJ:tree (uk (eX s t))=true:=by cases eX s t<;>rfl
 refine ae.aD af Tryz.func45 rfl Bw (by simp[Tryz.ntmps45]) SJ λ C hC M0=>?_;rw[Tryz.ntmps45] at hC;simp only[cU,lJ,ints];apply aq;simp[hC];by_cases hf:s.fault=0
 .by_cases h0:t<0
  .have hn:eX s t=none:=by simp[eX,h0]
   rw[hn];apply aW;simp[hC,hf,h0];refine T.cond (b:=true) Tt ?_;simp;apply aq;simp[hC];apply T.ret;apply aa.here;simp[Tryz.results45,uk]
  .obtain⟨k,rfl⟩:∃ k:Nat,t=k:=⟨t.toNat,by omega⟩;by_cases hk:k<s.ts.length
   .obtain⟨l,hl⟩:∃ l,s.ts[k]? = some l:=⟨_,getElem?_eq_getElem hk⟩;have UX:=MG hl;have Vs:¬ (s.ts.length<=k):=by omega
    have hlb:=hb.2 l (mem_of_getElem? hl);by_cases VE:l=[]
    .have hn:eX s k=none:=by simp[eX,hl,VE]
     rw[hn];subst VE;apply aW;simp[hC,hf,h0,Vs,hk,UX,ez];refine T.cond (b:=true) Tt ?_;simp;apply aq;simp[hC];apply T.ret;apply aa.here;simp[Tryz.results45,uk]
    .have hlp:0<l.length:=length_pos_iff.2 VE;have hlz:((l.length:Int) == 0)=false:=by rw[beq_eq_false_iff_ne];omega
     obtain⟨f,Tg⟩:∃ f,l[l.length-1]? = some f:=⟨_,getElem?_eq_getElem yA⟩;have hn:eX s k=some f:=by simp[eX,hl,hf,getLast?_eq_getElem?,Tg]
     rw[hn];have VI:=aL (f:=ed) (n:=4) en Tg;rw[show l.length-1+1=l.length by omega,drop_length,flatMap_nil,append_nil] at VI;have wl:=cr ((l.length-1:Nat):Int) yA yA;have WK:((l.length:Int)-1)=((l.length-1:Nat):Int):=by omega
     have P1:l.length-1<l.length:=by omega
     apply aW;simp[hC,hf,h0,Vs,hk,UX,ez,hlz];refine T.cond (b:=false) Tt (T.skip ?_);simp;apply aq;simp[hC,hk,UX,ez];apply aq;simp[hC,WK,wl,P1,VI,ed];apply T.ret;apply aa.here;simp[Tryz.results45,uk,ed]
   .have hn:eX s k=none:=by simp[eX,getElem?_eq_none (Nat.le_of_not_lt hk)]
    have Vs:s.ts.length<=k:=by omega
    rw[hn];apply aW;simp[hC,hf,h0,Vs];refine T.cond (b:=true) Tt ?_;simp;apply aq;simp[hC];apply T.ret;apply aa.here;simp[Tryz.results45,uk]
 .have hn:eX s t=none:=by simp[eX,hf]
  rw[hn];have Tm:((s.fault:Int) != 0)=true:=by rw[bne_iff_ne];omega
  apply aW;simp[hC,Tm];refine T.cond (b:=true) Tt ?_;simp;apply aq;simp[hC];apply T.ret;apply aa.here;simp[Tryz.results45,uk]
def iT:In->Nat
 | .set t _ _=>t
 | .call _ t _ _=>t
 | .branch t _=>t
 | .jump t=>t
 | _=>0
def iG:In->Bool
 | .set _ g _=>g
 | _=>false
def inE:In->Ex
 | .set _ _ e=>e
 | .branch _ e=>e
 | _=>.zero
def iP:In->Pl
 | .lock _ p=>p
 | _=>⟨false,0,none⟩
def iL:In->List Ex
 | .call _ _ l _=>l
 | _=>[]
def iQ:In->List Pl
 | .call _ _ _ l=>l
 | _=>[]
theorem Il (z:In):cY z=[I (qU z),I (iT z),.bool (iG z)]++bf (inE z)++iq (iP z)++[.az ((iL z).flatMap bf) (iL z).length,.az ((iQ z).flatMap iq) (iQ z).length]:=by
 cases z<;>simp[cY,qU,iT,iG,inE,iP,iL,iQ,oE,iq,oL]
def J44 (l:List Pl)(o t:Int)(g:Bool)(a1 a2:Int)(a3:ByteArray)(a4:List CV)(a5:Nat)(p1:Bool)(p2:Int)(p3:List CV)(p4:Nat)(L:List CV)(Ln:Nat)(n:Nat)(s:St):Prop:=∃ i:Nat,n=l.length-i/\i<=l.length/\
 s=⟨[(51,I i),(50,I l.length),(49,.az (l.flatMap iq) l.length),(9,.ax 18 0),(7,.bool false),(6,.ax 2 0)],[(19,⟨87,3,(l.take i).flatMap iq⟩),(18,⟨90,0,[I o,I t,.bool g,I a1,I a2,.str a3,.az a4 a5,.bool p1,I p2,.az p3 p4,.az L Ln,.a7 19 0 i]⟩),(2,⟨90,0,[I 0,I 0,.bool false,I 0,I 0,.str eS,.aj,.bool false,I 0,.aj,.aj,.aj]⟩)],20⟩
theorem zq (u:Un)(s:Sy)(t:Int)(hb:s.ts.length<=1000000/\∀ l∈s.ts,l.length<=1000000)(hf:FrsV u s)(hz:∀ z,j8 u s t=some z->(iL z).length<=1000/\(iQ z).length<=1000):ae prog 33 [cf u,cU s,I t] (mY (j8 u s t)):=by
 have Wk:=sC s t hb;have SJ:tree (mY (j8 u s t))=true:=by
  cases j8 u s t with
  | none=>rfl
  | some i=>simp only[mY,tree,trees,eB,Bool.and_self]
 have SH:=bm u;simp only[dk,ints] at SH;have TK:trees [cU s,I t]=true:=by simp only[trees,tree,cU,lJ,ints,Bool.and_self]
 refine ae.aD af Tryz.func33 rfl Bw (by simp[Tryz.ntmps33]) SJ λ C hC M0=>?_;rw[Tryz.ntmps33] at hC;simp only[cU,lJ,cf,dk,ints] at Wk TK |-;apply aq;simp[hC];apply aq;simp[hC];refine cS TK Wk ?_
 cases WN:eX s t with
 | none=>
  have hn:j8 u s t=none:=by simp[j8,WN]
  rw[hn];simp[hC,uk];apply aW;simp[hC];refine du ?_;simp;apply aq;simp[hC];apply T.ret;refine aa.le (Le.trim [6,7] [2] 3 xr yA) ?_;simp;refine aa.le (Le.nz [] [2]) ?_;apply aa.here;simp[mY,eS]
 | some f=>
  obtain⟨l,Uo,TO⟩:=wW WN;obtain⟨q,hq,gQ⟩:=hf l Uo f TO;obtain⟨z,hzi⟩:∃ z,q.code[f.pc]? = some z:=⟨_,getElem?_eq_getElem gQ⟩;have hn:j8 u s t=some z:=by simp[j8,WN,hq,hzi]
  obtain⟨Wh,T1⟩:=hz z hn;rw[hn];have Tx:=(List.getElem?_eq_some_iff.1 hq).1;have OZ:=cb (f:=nA) (n:=5) iY hq 4 yA;have Vf:=aL (f:=cY) (n:=12) hU hzi;have Zw:=Il z;have WZ:=xI (inE z);have hxp:=zG (iP z);have Xi:=zK (iL z) Wh;have te:trees [.agg (bf (inE z))]=true:=by simp only[trees,tree,aO,Bool.and_self]
  have tp:trees [.agg (iq (iP z))]=true:=by simp only[trees,tree,db,Bool.and_self]
  have tl:trees [.az ((iL z).flatMap bf) (iL z).length]=true:=by simp only[trees,tree,Bool.and_self]
  obtain⟨a1,a2,a3,a4,a5,Zy,tea⟩:=gf (inE z);obtain⟨p1,p2,p3,p4,Yt,tpc⟩:=pb (iP z);rw[Zy,Yt] at Zw;rw[Zy] at WZ te;rw[Yt] at hxp tp;simp only[cons_append,nil_append] at Zw;rw[Zw] at Vf;simp[hC,uk,ed];apply aW;simp[hC];refine gk ?_;simp;refine T.seq (T.rx af follows [0,1,2,3,4,5,6,7,8,9,10,11,12,13,14,15,16] [(1,15),(5,15),(8,15),(12,15),(14,15)] Bw ?_);simp[hC,Tx,OZ,nA,gQ,Vf];refine T.seq (T.rx af follows [0,1,3,4,6,7,2,9,5,8,10,11,12,13,14] [(4,2),(7,2),(7,5)] Bw ?_);simp[hC];refine RX.call rfl rfl rfl rfl rfl te WZ ?_;simp;refine RX.call rfl rfl rfl rfl rfl tp hxp ?_;simp;refine RX.call rfl rfl rfl rfl rfl tl Xi ?_;simp;have tL:trees ((iL z).flatMap bf)=true:=ak aO _;have tQ:trees ((iQ z).flatMap iq)=true:=ak db _;apply aq;simp[hC];apply aq;simp[hC];apply aW;simp[hC];apply T.block;refine T.le (Le.trim [51,50,49,9,7,6] [18,2] 19 Vn yA) ?_;simp;refine T.aI (J44 (iQ z) (qU z) (iT z) (iG z) a1 a2 a3 a4 a5 p1 p2 p3 p4 ((iL z).flatMap bf) (iL z).length) (n:=(iQ z).length) ?_ ?_
  .refine aa.le (Le.mU 18 11 87 3 rfl rfl) ?_;simp;refine aa.here ⟨0,by omega,by omega,?_⟩;simp[eS]
  .rintro n s ⟨i,rfl,hi,rfl⟩;by_cases Jz:i<(iQ z).length
   .obtain⟨a,XN⟩:∃ a,(iQ z)[i]? = some a:=⟨_,getElem?_eq_getElem Jz⟩;have Ye:=zG a;have MY:trees [.agg (iq a)]=true:=by simp only[trees,tree,db,Bool.and_self]
    have WS:=aL (f:=iq) (n:=3) lR XN;have YB:=aG lR ((iQ z).take i);have SE:=um iq XN;have wi:=cr ((i:Int)+1) yA yA;obtain⟨c1,c2,c3,c4,SP,Yb⟩:=pb a;rw[SP] at WS Ye MY SE;have tB:trees (((iQ z).take i).flatMap iq)=true:=ak db _;have tC:trees (((iQ z).take (i+1)).flatMap iq)=true:=ak db _;have Uo:((iQ z).take i).length=i:=by simp;omega
    rw[Uo] at YB;have b1:(i+1)*40<=140737488355328:=by omega
    have b2:i*3+3=(i+1)*3:=by omega
    generalize ((iQ z).take i).flatMap iq=B at YB SE tB;apply aq;simp[hC,Jz];refine T.seq (T.cond (b:=true) rfl (T.skip ?_));simp;apply eE;apply aq;simp[hC,Jz,WS];refine T.rx af follows [0,1,2,3,4,5,6,7] [(1,3),(1,4)] Bw ?_;simp[hC];refine RX.call rfl rfl rfl rfl rfl MY Ye ?_;simp[YB,b1,aY];apply aM;simp[hC,wi];refine⟨(iQ z).length-(i+1),by omega,?_⟩;have YV:trees (B++[.bool c1,I c2,.az c3 c4])=true:=by rw[SE];exact tC
    have Zf:=λ ρ=>ah ρ _ YV;have rL:=λ ρ=>ah ρ _ tL;have rQ:=λ ρ=>ah ρ _ tQ;have r4:=λ ρ=>ah ρ _ tea;have r5:=λ ρ=>ah ρ _ tpc;refine aa.le (Le.norm [51,50,49,9,7,6] [(29,19),(18,18),(2,2)] 0 20 SZ SY yCj yA) ?_;simp[cq,bb,aX,cO,ec,assoc,Zf];refine aa.here ⟨i+1,rfl,by omega,?_⟩;rw[<- SE];simp
   .have Rz:i=(iQ z).length:=by omega
    subst Rz;apply aq;simp[hC];apply T.seq;refine T.cond (b:=false) Tt ?_;simp;apply T.exit;simp;apply aq;simp[hC];apply T.ret;have hkA:take ((iQ z).length*3) ((iQ z).flatMap iq)=(iQ z).flatMap iq:=take_of_length_le (by rw[aG lR];omega);refine aa.le (Le.trim [6,7] [2,19] 20 (by simp[-all_eq_true,-all_flatMap,-all_map,ai tQ]) yA) ?_;simp;refine aa.le (Le.di (o:=19) rfl tQ) ?_;simp[hkA];apply aa.here;simp[mY,Zw]
theorem yq (m:Nat):∀ (ms:List Mx) (i j:Nat) (x:Mx),i<=m->ms[m-i]? = some x->pH (cG ms i) m j=((j+dq (ms.take (m-i)):Nat):Int)
 | [],i,j,x,_,h=>by simp at h
 | y::r,i,j,x,hi,h=>by
  rw[cG];by_cases he:i=m
  .subst he;obtain⟨n,hn⟩:∃ n,max y.size 1=n+1:=⟨max y.size 1-1,by omega⟩;rw[hn,replicate_succ,cons_append,pH,if_pos rfl,Nat.sub_self,take_zero];rfl
  .have e:m-i=(m-(i+1))+1:=by omega
   rw[e,getElem?_cons_succ] at h;rw[ot i m he,yq m r (i+1) _ x yA h,e,take_succ_cons,dq];congr 1;omega
structure D7 (s:Sy):Prop where
 gs:∀ n∈s.gs,oR n
 vs:∀ l∈s.ts,∀ f∈l,∀ n∈f.aV,oR n
theorem Cq (u:Un)(s:Sy)(t:Int)(p:Pl)(hm:FI u.ms)(hr:D7 s)(hb:s.ts.length<=1000000/\∀ l∈s.ts,l.length<=1000000)(hp:p.index<=1000000)(f:Fr)(SM:eX s t=some f)
  (UC:wM u.ms s.gs.length f.aV.length f.eD.length p):ae prog 92 [cf u,cU s,I t,.agg (iq p)] (.cF [I (bV u s t p).1,I (bV u s t p).2]):=by
 have Wk:=sC s t hb;have MY:trees [cU s,I t]=true:=by simp only[trees,tree,cU,lJ,ints,Bool.and_self]
 have tix:trees [.agg (iq p),.az (u.ms.flatMap cP) u.ms.length,ints s.gs,ints f.aV]=true:=by
  simp only[trees,tree,db,de,Bool.and_self]
 have tba:trees [.az (u.ms.flatMap cP) u.ms.length,I p.index]=true:=by simp only[trees,tree,Bool.and_self]
 obtain⟨lf,XY,hff⟩:=wW SM;rw[SM] at Wk;have VB:=HV u.ms s.gs f.aV hr.gs (hr.vs lf XY f hff) f.eD.length p UC;have SK:bV u s t p=if p.param=true then (((f.eD.getD p.index 0:Nat):Int),0) else
  if (ir u.ms s.gs f.aV p).2=0 then (wr (DJ u.ms p.index+(ir u.ms s.gs f.aV p).1),0) else (0,(ir u.ms s.gs f.aV p).2):=by
  simp only[bV,SM]
 rw[SK];generalize ir u.ms s.gs f.aV p=x at VB |-;obtain⟨v,g⟩:=x;have Y3:¬ ((p.index:Int)<0):=by omega
 refine ae.aD af Tryz.func92 rfl Bw (by simp[Tryz.ntmps92]) rfl λ C hC M0=>?_;rw[Tryz.ntmps92] at hC;simp only[cU,lJ,cf,dk,iq,ints,uk,ed] at *
 cases XC:p.param with
 | true=>
  have V5:p.index<f.eD.length:=by
   rcases UC with h | h
   .exact h.2.1
   .rw[XC] at h;cases h.1
  obtain⟨a,ha⟩:∃ a,f.eD[p.index]? = some a:=⟨_,getElem?_eq_getElem V5⟩;have WS:=dV ha;have Zn:¬ (f.eD.length<=p.index):=by omega
  apply aq;simp[hC];apply aq;simp[hC];refine cS MY Wk ?_;simp[hC]
  repeat first
   | apply T.seq
   | (apply aM;simp[hC])
   | (refine bg ?_;simp)
   | (refine du ?_;simp)
   | (apply T.skip;simp)
   | apply T.block
  refine T.rx af follows [0,1,2,3,4,5,6,7,8,9,10,11,12] [] Bw ?_;simp[hC,aA,V5,Y3,Zn]
  repeat first
   | apply T.seq
   | (apply aM;simp[hC])
   | (refine bg ?_;simp)
   | (refine du ?_;simp)
   | (apply T.skip;simp)
   | apply T.block
  refine T.rx af follows [0,1,2,3,4,5,6,7,8,9] [] Bw ?_;simp[hC,V5,WS];apply T.ret;apply aa.here;simp[Tryz.results92,(List.getElem?_eq_some_iff.1 ha).2]
 | false=>
  obtain⟨xm,XU⟩:∃ x,u.ms[p.index]? = some x:=by
   rcases UC with h | ⟨_,x,h,_⟩
   .rw[XC] at h;cases h.1
   .exact⟨x,h⟩
  have hba:=Cu u.ms hm p.index xm XU;have Y5:DJ u.ms p.index=(dq (u.ms.take p.index):Int):=by
   have:=yq p.index u.ms 0 0 xm yA XU;rw[Nat.zero_add] at this;exact this
  rw[XC] at VB tix;apply aq;simp[hC];apply aq;simp[hC];refine cS MY Wk ?_;simp[hC]
  repeat first
   | apply T.seq
   | (apply aM;simp[hC])
   | (refine bg ?_;simp)
   | (refine du ?_;simp)
   | (apply T.skip;simp)
   | apply T.block
  refine T.rx af follows [0,1,2,3,4,5,6,7,8,9,10,11,12,13,14] [] Bw ?_;simp[hC];refine RX.call rfl xr rfl rfl rfl tix VB ?_;simp;by_cases hg:g=0
  .subst hg
   repeat first
    | apply T.seq
    | (apply aM;simp[hC])
    | (refine bg ?_;simp)
    | (refine du ?_;simp)
    | (apply T.skip;simp)
    | apply T.block
   refine cS tba hba ?_;simp[hC];apply T.ret;apply aa.here;simp[Tryz.results92,Y5,wr]
  .have WE:((g:Int) != 0)=true:=by rw[bne_iff_ne];omega
   repeat first
    | apply T.seq
    | (apply aM;simp[hC,WE])
    | (refine T.cond (b:=false) ?_ ?_;(first | rfl | (simp[ev,assoc];done));simp)
    | (refine T.cond (b:=true) ?_ ?_;(first | rfl | (simp[ev,assoc,WE];done));simp)
    | (apply T.skip;simp)
    | apply T.block
   apply T.ret;apply aa.here;simp[Tryz.results92,hg]
def Pp (s:Sy)(t:Nat)(l0:List Fr)(f:Fr)(g:Nat)(e:Ex):Sy:=
 if (bO s.gs f.aV e).2=0 then { s with ts:=s.ts.set t (l0++[{ f with pc:=if (bO s.gs f.aV e).1=0 then g else f.pc+1 }]) } else { s with fault:=(bO s.gs f.aV e).2 }
def OY (u:Un)(s:Sy)(t:Nat)(l0:List Fr)(f:Fr)(p:Pl):Sy×Bool:=
 if (bV u s t p).2=0 then
  (if (fM u.ms s.tb (bV u s t p).1.toNat t).2=true then ({ s with tb:=(fM u.ms s.tb (bV u s t p).1.toNat t).1,ts:=s.ts.set t (l0++[{ f with pc:=f.pc+1 }]) },true) else (s,false))
 else ({ s with fault:=(bV u s t p).2 },true)
def OL (u:Un)(s:Sy)(t:Nat)(l0:List Fr)(f:Fr)(p:Pl):Sy×Bool:=
 if (bV u s t p).2=0 then
  (if (dt u.ms s.tb (bV u s t p).1.toNat t).2=true then ({ s with tb:=(dt u.ms s.tb (bV u s t p).1.toNat t).1,ts:=s.ts.set t (l0++[{ f with pc:=f.pc+1 }]) },true) else ({ s with fault:=3 },true))
 else ({ s with fault:=(bV u s t p).2 },true)
def Po (u:Un)(s:Sy)(t:Nat)(l0:List Fr)(f:Fr)(tg n:Nat)(es:List Ex)(ps:List Pl):Sy:=
 if (ny u s t f tg n es ps).2=0 then { s with ts:=s.ts.set t (l0++[{ f with pc:=f.pc+1 },(ny u s t f tg n es ps).1]) } else { s with fault:=(ny u s t f tg n es ps).2 }
def OO (s:Sy)(t:Nat)(l0:List Fr)(f:Fr)(k:Nat)(gl:Bool)(e:Ex):Sy:=
 if (bO s.gs f.aV e).2=0 then
  (if gl=true then { s with gs:=s.gs.set k (bO s.gs f.aV e).1,ts:=s.ts.set t (l0++[{ f with pc:=f.pc+1 }]) }
   else { s with ts:=s.ts.set t (l0++[{ f with pc:=f.pc+1,aV:=f.aV.set k (bO s.gs f.aV e).1 }]) })
 else { s with fault:=(bO s.gs f.aV e).2 }
def O8 (u:Un)(s:Sy)(t:Nat)(l0:List Fr)(f:Fr)(tg n:Nat)(es:List Ex)(ps:List Pl):Sy:=
 if (ny u s t f tg n es ps).2=0 then
  (if 32<=s.ts.length then { s with fault:=4 } else { s with ts:=s.ts.set t (l0++[{ f with pc:=f.pc+1 }])++[[(ny u s t f tg n es ps).1]] })
 else { s with fault:=(ny u s t f tg n es ps).2 }
def uI (u:Un)(tg:Nat):Nat:=match u.ps[tg]? with
 | some q=>q.locals
 | none=>0
def fj (u:Un)(s:Sy)(t:Nat)(l0:List Fr)(f:Fr):In->Sy×Bool
 | .set k gl e=>(OO s t l0 f k gl e,true)
 | .call go tg es ps=>(if go=true then O8 u s t l0 f tg (uI u tg) es ps else Po u s t l0 f tg (uI u tg) es ps,true)
 | .lock un p=>if un=true then OL u s t l0 f p else OY u s t l0 f p
 | .branch g e=>(Pp s t l0 f g e,true)
 | .jump g=>({ s with ts:=s.ts.set t (l0++[{ f with pc:=g }]) },true)
 | .ret=>({ s with ts:=s.ts.set t l0 },true)
def gr (u:Un)(s:Sy)(t:Int):Sy×Bool:=match eX s t with
 | none=>(s,false)
 | some f=>match j8 u s t with
  | none=>(s,false)
  | some i=>fj u s t.toNat ((s.ts.getD t.toNat []).dropLast) f i
def lg (ms:List Mx)(e:Nat):Nat:=(bT ms).getD e 0
def gv (ms:List Mx)(f:Fr):Is:=⟨f.proc,f.eD.map (lg ms)⟩
structure Me (u:Un)(f:Fr):Prop where
 q:∃ q,u.ps[f.proc]? = some q/\f.pc<q.code.length/\f.aV.length=q.locals/\f.eD.length=q.bh
 el:∀ e∈f.eD,e<(bT u.ms).length
 ic:gv u.ms f∈(aw u).is
structure pK (u:Un)(k:Nat)(s:Sy):Prop where
 gs:s.gs.length=u.gs.length
 tb:s.tb.length=(bT u.ms).length
 hd:∀ h∈s.tb,h.d<=k/\(h.o≠0->0<h.d)
 ho:∀ h∈s.tb,h.o<=32
 ts:1<=s.ts.length/\s.ts.length<=32
 fl:∀ l∈s.ts,l.length<=k+1
 fr:∀ l∈s.ts,∀ f∈l,Me u f
theorem nC {u:Un}(h:gg u):FI u.ms:=⟨by have:=h.nm;omega,λ m hm=>by have:=(h.mz m hm).1;omega⟩
theorem xy:∀ (l:List Mx) (s:Nat),(∀ m∈l,m.size<=3)->(cG l s).length<=3*l.length
 | [],s,_=>by simp[cG]
 | m::r,s,h=>by
  have h1:=h m mem_cons_self;have h2:=xy r (s+1) λ x hx=>h x (mem_cons_of_mem _ hx);simp only[cG,length_append,length_replicate,length_cons];omega
theorem Ai {u:Un}(h:gg u):(bT u.ms).length<=12:=by
 have h1:=xy u.ms 0 λ m hm=>(h.mz m hm).1;have:=h.nm;rw[bT];omega
theorem xx:∀ (l:List Mx) (s:Nat),∀ m∈cG l s,m<s+l.length
 | [],s,m,h=>by simp[cG] at h
 | x::r,s,m,h=>by
  rw[cG,mem_append] at h;rcases h with h | h
  .have:=eq_of_mem_replicate h;rw[length_cons];omega
  .have:=xx r (s+1) m h;rw[length_cons];omega
theorem HZ (ms:List Mx):∀ m∈bT ms,m<ms.length:=λ m h=>by simpa using xx ms 0 m h
theorem z8 (m:Nat):∀ (ms:List Mx) (i j:Nat) (x:Mx),i<=m->ms[m-i]? = some x->∃ k:Nat,pH (cG ms i) m j=((j+k:Nat):Int)/\∀ d,d<max x.size 1->(cG ms i)[k+d]? = some m
 | [],i,j,x,_,h=>by simp at h
 | y::r,i,j,x,hi,h=>by
  rw[cG];by_cases he:i=m
  .subst he;simp at h;subst h;refine⟨0,?_,λ d hd=>?_⟩
   .obtain⟨n,hn⟩:∃ n,max y.size 1=n+1:=⟨max y.size 1-1,by omega⟩;rw[hn,replicate_succ,cons_append,pH,if_pos rfl];simp
   .rw[getElem?_append_left Tv,Nat.zero_add,getElem?_replicate,if_pos hd]
  .rw[ot i m he];have h2:r[m-(i+1)]? = some x:=by
    have:m-i=(m-(i+1))+1:=by omega
    rw[this,getElem?_cons_succ] at h;exact h
   obtain⟨k,h3,h4⟩:=z8 m r (i+1) (j+max y.size 1) x yA h2;refine⟨max y.size 1+k,by rw[h3];congr 1;omega,λ d hd=>?_⟩;rw[getElem?_append_right Tv];rw[length_replicate,show max y.size 1+k+d-max y.size 1=k+d by omega];exact h4 d hd
theorem kA {u:Un}(hu:gg u){s:Sy}{t:Int}{p:Pl}{f:Fr}(ht:eX s t=some f)(hf:Me u f)(hv:wM u.ms s.gs.length f.aV.length f.eD.length p){n:Nat}(he:bV u s t p=((n:Int),0)) :
  n<(bT u.ms).length/\lg u.ms n=jl (gv u.ms f) p:=by
 unfold bV at he;rw[ht] at he;simp only at he;rcases hv with ⟨h1,h2,h3⟩ | ⟨h1,m,hm,h3⟩
 .rw[if_pos h1] at he;simp only[Prod.mk.injEq,and_true] at he;have hg:f.eD[p.index]? = some f.eD[p.index]:=getElem?_eq_getElem h2;have hn:f.eD[p.index]=n:=by
   have:f.eD.getD p.index 0=f.eD[p.index]:=by simp[getD_eq_getElem?_getD,hg]
   omega
  refine⟨by rw[<- hn];exact hf.el _ (getElem_mem h2),?_⟩;simp only[jl,h1,if_true,gv];rw[getD_eq_getElem?_getD,getElem?_map,hg,<- hn];rfl
 .rw[if_neg (by rw[h1];decide)] at he;split at he
  .rename_i h0;simp only[Prod.mk.injEq,and_true] at he;obtain⟨k,hk,ho⟩:=z8 p.index u.ms 0 0 m yA (by simpa using hm);obtain⟨j,hj,Tl⟩:∃ j:Nat,(ir u.ms s.gs f.aV p).1=j/\j<max m.size 1:=by
    unfold ir at h0 |-;rcases h3 with ⟨h,hz⟩ | ⟨e,h,hz,_⟩
    .rw[h];exact⟨0,rfl,by omega⟩
    .rw[h] at h0 |-;simp only[hm] at h0 |-;split
     .rename_i h5;rw[if_pos h5] at h0;split
      .rename_i h6;rw[if_pos h6] at h0;cases h0
      .rename_i h6;exact⟨(bO s.gs f.aV e).1.toNat,by simp only;omega,by omega⟩
     .rename_i h5;rw[if_neg h5] at h0;exact (h5 h0).elim
   have ZY:=Ai hu;have P1:=(List.getElem?_eq_some_iff.1 (ho j Tl)).1;rw[bT] at ZY;rw[show DJ u.ms p.index=((0+k:Nat):Int) from hk,hj,wr,cr _ yA yA] at he;have hn:n=k+j:=by omega
   subst hn;refine⟨P1,?_⟩;simp only[jl,h1,Bool.false_eq_true,if_false,lg];rw[getD_eq_getElem?_getD,bT,ho j Tl];rfl
  .rename_i h0;simp only[Prod.mk.injEq] at he;exact (h0 he.2).elim
theorem nZ (gs ls:List Int):∀ es:List Ex,(df gs ls es).2=0->(df gs ls es).1.length=es.length
 | [],_=>rfl
 | e::r,h=>by
  unfold df at h |-;split
  .rename_i h1;rw[if_pos h1] at h;simp[nZ gs ls r h]
  .rename_i h1;rw[if_neg h1] at h;exact (h1 h).elim
theorem n7 {u:Un}(hu:gg u){s:Sy}{t:Int}{f:Fr}(ht:eX s t=some f)(hf:Me u f):∀ ps:List Pl,(∀ p∈ps,wM u.ms s.gs.length f.aV.length f.eD.length p)->(dv u s t ps).2=0 ->
  (∀ e∈(dv u s t ps).1,e<(bT u.ms).length)/\(dv u s t ps).1.map (lg u.ms)=ps.map (jl (gv u.ms f))
 | [],_,_=>⟨(λ e he=>by cases he),rfl⟩
 | p::r,hv,h=>by
  unfold dv at h |-;split
  .rename_i h1;rw[if_pos h1] at h;obtain⟨n,hn⟩:=kB u s t p (nC hu) f ht (hv p mem_cons_self);obtain⟨k1,k2⟩:=kA hu ht hf (hv p mem_cons_self) (n:=n) (Prod.ext hn h1);obtain⟨k3,k4⟩:=n7 hu ht hf r (λ q hq=>hv q (mem_cons_of_mem _ hq)) h;have hz:(bV u s t p).1.toNat=n:=by omega
   refine⟨λ e he=>?_,?_⟩
   .simp only[mem_cons] at he;rcases he with rfl | he
    .rw[hz];exact k1
    .exact k3 e he
   .simp only[map_cons,k4,hz,k2]
  .rename_i h1;rw[if_neg h1] at h;exact (h1 h).elim
theorem Me.pc {u:Un}{f:Fr}(h:Me u f){q:Pr}(hq:u.ps[f.proc]? = some q){g:Nat}(hg:g<q.code.length):Me u { f with pc:=g }:=by
 obtain⟨q',h1,_,h3,h4⟩:=h.q;rw[hq] at h1;cases h1;exact⟨⟨q,hq,hg,h3,h4⟩,h.el,h.ic⟩
theorem wg {u:Un}(hu:gg u){f:Fr}{q:Pr}(hq:u.ps[f.proc]? = some q){i:In}(hi:q.code[f.pc]? = some i)(hr:i≠.ret):f.pc+1<q.code.length:=by
 obtain⟨⟨c,hc⟩,_⟩:=hu.pc q (mem_of_getElem? hq);rw[hc] at hi |-;have h1:=(List.getElem?_eq_some_iff.1 hi).1;simp only[length_append,length_singleton] at h1 |-;by_cases h:f.pc=c.length
 .rw[h] at hi;simp at hi;exact (hr hi.symm).elim
 .omega
theorem nH {s:Sy}{t:Int}{f:Fr}(h:eX s t=some f):∃ (n:Nat) (l0:List Fr),t=n/\s.ts[n]? = some (l0++[f])/\s.fault=0/\(s.ts.getD n []).dropLast=l0:=by
 unfold eX at h;split at h
 .cases h
 .rename_i h0;split at h
  .rename_i l hl;obtain⟨l0,rfl⟩:=getLast?_eq_some_iff.1 h;refine⟨t.toNat,l0,by omega,hl,?_,?_⟩
   .by_cases hz:s.fault=0
    .exact hz
    .exact (h0 (.inr hz)).elim
   .rw[getD_eq_getElem?_getD,hl];simp
  .cases h
section
variable {u:Un}(hu:gg u){k:Nat}{s:Sy}(hs:pK u k s){t:Nat}{l0:List Fr}{f:Fr}(hl:s.ts[t]? = some (l0++[f]))
include hs hl
theorem pK.set {gs:List Int}{tb:List Ho}{l:List Fr}{fa:Nat}(h1:gs.length=s.gs.length)(h2:tb.length=s.tb.length)(h3:∀ h∈tb,h.d<=k+1/\(h.o≠0->0<h.d))(h6:∀ h∈tb,h.o<=32)(h4:l.length<=k+2)(h5:∀ f∈l,Me u f):pK u (k+1) ⟨gs,tb,s.ts.set t l,fa⟩:=by
 have _:=hl;refine⟨by rw[h1,hs.gs],by rw[h2,hs.tb],h3,h6,by rw[length_set];exact hs.ts,λ l' h=>?_,λ l' h=>?_⟩
 .rcases mem_or_eq_of_mem_set h with h | rfl
  .have:=hs.fl l' h;omega
  .omega
 .rcases mem_or_eq_of_mem_set h with h | rfl
  .exact hs.fr l' h
  .exact h5
theorem pK.gH:(∀ g∈l0,Me u g)/\Me u f/\l0.length<=k/\(∀ h∈s.tb,h.d<=k+1/\(h.o≠0->0<h.d)):=by
 have hm:=mem_of_getElem? hl;have h1:=hs.fr _ hm;have h2:=hs.fl _ hm;refine⟨λ g hg=>h1 g (by simp[hg]),h1 f xr,by simp at h2;omega,λ h hh=>?_⟩;have:=hs.hd h hh;exact⟨by omega,this.2⟩
omit hl in
theorem pK.pv {fa:Nat}:pK u (k+1) { s with fault:=fa }:=by
 refine⟨hs.gs,hs.tb,λ h hh=>?_,hs.ho,hs.ts,λ l hl=>?_,hs.fr⟩
 .have:=hs.hd h hh;exact⟨by omega,this.2⟩
 .have:=hs.fl l hl;omega
include hu
theorem F0 (ht:eX s t=some f){q:Pr}(hq:u.ps[f.proc]? = some q){i:In}(hi:q.code[f.pc]? = some i):pK u (k+1) (fj u s t l0 f i).1:=by
 obtain⟨o1,o2,o3,o4⟩:=hs.gH hl;obtain⟨q',UH,gQ,W0,SK⟩:=o2.q;rw[hq] at UH;cases UH;have ht32:t<32:=Nat.lt_of_lt_of_le (List.getElem?_eq_some_iff.1 hl).1 hs.ts.2;have Uw:=(hu.pc q (mem_of_getElem? hq)).2 i (mem_of_getElem? hi);rw[<- hs.gs,<- W0,<- SK] at Uw;have fin:∀ {gs:List Int} {tb:List Ho} {g:Nat} {vs:List Int},gs.length=s.gs.length->tb.length=s.tb.length->(∀ h∈tb,h.d<=k+1/\(h.o≠0->0<h.d))->(∀ h∈tb,h.o<=32)->g<q.code.length->vs.length=f.aV.length->pK u (k+1) ⟨gs,tb,s.ts.set t (l0++[⟨f.proc,g,vs,f.eD⟩]),s.fault⟩:=λ {gs tb g vs} h1 h2 h3 h6 h4 h5=>by
  refine hs.set hl h1 h2 h3 h6 Tv λ g' Zx=>?_;rcases mem_append.1 Zx with Zx | Zx
  .exact o1 g' Zx
  .rw[mem_singleton.1 Zx];exact⟨⟨q,hq,h4,by rw[h5];exact W0,SK⟩,o2.el,o2.ic⟩
 cases i with
 | set k' gl e=>
  have hn:=wg hu hq hi xr;simp only[fj,OO];split
  .split
   .exact fin xr rfl o4 hs.ho hn rfl
   .exact fin rfl rfl o4 hs.ho hn xr
  .exact hs.pv
 | branch g e=>
  have hn:=wg hu hq hi xr;simp only[fj,Pp];split
  .refine fin rfl rfl o4 hs.ho ?_ rfl;split
   .have:=Uw.1;omega
   .exact hn
  .exact hs.pv
 | jump g=>
  have:g<=q.code.length-1:=Uw;exact fin rfl rfl o4 hs.ho yA rfl
 | ret=>exact hs.set hl rfl rfl o4 hs.ho yA o1
 | lock un p=>
  have hn:=wg hu hq hi xr;simp only[fj];split
  .simp only[OL];split
   .split
    .refine fin rfl ?_ ?_ ?_ hn rfl
     .unfold dt;split
      .split<;>simp
      .rfl
     .unfold dt;split
      .rename_i h h1 h2;split
       .rename_i h3;have ho:=hs.hd h (mem_of_getElem? h2);intro x hx;rcases mem_or_eq_of_mem_set hx with hx | hx
        .exact o4 x hx
        .rw[hx];split
         .exact⟨by simp only;omega,λ h=>(h rfl).elim⟩
         .have:=ho.2 yA;exact⟨by simp only;omega,λ _=>by simp only;omega⟩
       .exact o4
      .exact o4
     .unfold dt;split
      .split
       .intro x hx;rcases mem_or_eq_of_mem_set hx with hx | hx
        .exact hs.ho x hx
        .rw[hx];split<;>simp only<;>omega
       .exact hs.ho
      .exact hs.ho
    .exact hs.pv
   .exact hs.pv
  .simp only[OY];split
   .split
    .refine fin rfl ?_ ?_ ?_ hn rfl
     .unfold fM;split<;>simp
     .unfold fM;split
      .intro x hx;rcases mem_or_eq_of_mem_set hx with hx | hx
       .exact o4 x hx
       .rw[hx];refine⟨?_,λ _=>by simp only;omega⟩;simp only;split
        .rename_i h h1;have:=(hs.hd h (mem_of_getElem? h1)).1;omega
        .omega
      .exact o4
     .unfold fM;split
      .intro x hx;rcases mem_or_eq_of_mem_set hx with hx | hx
       .exact hs.ho x hx
       .rw[hx];simp only;omega
      .exact hs.ho
    .exact hs.pv (fa:=s.fault)
   .exact hs.pv
 | call go tg es ps=>
  have hn:=wg hu hq hi xr;obtain⟨c1,c2,c3⟩:=Uw;rw[getElem?_map,Option.map_eq_some_iff] at c1;obtain⟨qq,Wq,c4⟩:=c1;simp only[Prod.mk.injEq] at c4;have hqv:=hu.pr qq (mem_of_getElem? Wq);have hci:=qh hu;have Zu:uI u tg=qq.locals:=by simp only[uI,Wq]
  have Te:(ny u s t f tg (uI u tg) es ps).2=0->Me u (ny u s t f tg (uI u tg) es ps).1:=λ h0=>by
   unfold ny at h0 |-;split
   .rename_i h1;rw[if_pos h1] at h0;split
    .rename_i h2;obtain⟨k1,k2⟩:=n7 hu ht o2 ps c3 h2;have k3:=nZ s.gs f.aV es h1;have k4:=congrArg length k2;simp only[length_map] at k4;have hqc:=(hu.pc qq (mem_of_getElem? Wq)).1;refine⟨⟨qq,Wq,?_,?_,?_⟩,k1,?_⟩
     .obtain⟨c,hc⟩:=hqc;rw[hc];simp
     .simp only[length_append,length_replicate,k3,Zu];omega
     .simp only;omega
     .simp only[gv,k2];obtain⟨j,hj⟩:=mem_iff_getElem?.1 o2.ic;refine hci.mem j _ (List.getElem?_eq_some_iff.1 hj).1 hj (.call go tg es ps) ?_ _ rfl;simp only[ay,gv,hq];exact mem_of_getElem? hi
    .rename_i h2;rw[if_neg h2] at h0;exact (h2 h0).elim
   .rename_i h1;rw[if_neg h1] at h0;exact (h1 h0).elim
  simp only[fj];split
  .simp only[O8];split
   .rename_i h0;split
    .exact hs.pv
    .rename_i h32;have hb:=fin (gs:=s.gs) (tb:=s.tb) (vs:=f.aV) rfl rfl o4 hs.ho hn rfl;refine⟨hb.gs,hb.tb,hb.hd,hb.ho,by simp only[length_append,length_set,length_singleton];omega,λ l h=>?_,λ l h=>?_⟩
     .rcases mem_append.1 h with h | h
      .exact hb.fl l h
      .rw[mem_singleton.1 h];simp
     .rcases mem_append.1 h with h | h
      .exact hb.fr l h
      .rw[mem_singleton.1 h];intro g hg;rw[mem_singleton.1 hg];exact Te h0
   .exact hs.pv
  .simp only[Po];split
   .rename_i h0;refine hs.set hl rfl rfl o4 hs.ho Tv λ g hg=>?_;simp only[mem_append,mem_cons,not_mem_nil,or_false] at hg;rcases hg with hg | rfl | rfl
    .exact o1 g hg
    .exact o2.pc hq hn
    .exact Te h0
   .exact hs.pv
end
theorem pK.frs {u:Un}{k:Nat}{s:Sy}(h:pK u k s):FrsV u s:=λ l hl f hf=>by
 obtain⟨q,h1,h2,_⟩:=(h.fr l hl f hf).q;exact⟨q,h1,h2⟩
theorem FY {u:Un}(hu:gg u){k:Nat}{s:Sy}(hs:pK u k s)(t:Int):pK u (k+1) (gr u s t).1:=by
 unfold gr;split
 .exact hs.pv (fa:=s.fault)
 .rename_i f hf;split
  .exact hs.pv (fa:=s.fault)
  .rename_i i hi;obtain⟨n,l0,rfl,hl,_,hd⟩:=nH hf;obtain⟨q,hq,gQ,_,_⟩:=(hs.gH hl).2.1.q;simp only[j8,hf,hq] at hi;rw[Int.toNat_natCast,hd];exact F0 hu hs hl hf hq hi
theorem uU (u:Un):∀ (f i:Nat) (l:List Is) (cs:List (List Int)) (r:List Nat) (x:Is),l[0]? = some x->(lz u f i l cs r).is[0]? = some x
 | 0,_,_,_,_,_,h=>h
 | f+1,i,l,cs,r,x,h=>by
  simp only[lz];split
  .exact h
  .rename_i y hy;refine uU u f (i+1) _ _ _ x ?_;obtain⟨t,ht⟩:=su y (ay u y) l r;rw[ht,getElem?_append_left (List.getElem?_eq_some_iff.1 h).1];exact h
theorem Ks {u:Un}(hu:gg u):pK u 0 (qv u):=by
 have hp:=hu.np.1;obtain⟨q,hq⟩:∃ q,u.ps[u.main]? = some q:=⟨_,getElem?_eq_getElem (by rw[hu.main];omega)⟩;refine⟨rfl,by simp[qv],λ h hh=>?_,λ h hh=>?_,by simp[qv],λ l hl=>?_,λ l hl f hf=>?_⟩
 .have:=eq_of_mem_replicate hh;rw[this];exact⟨Nat.zero_le _,λ h=>(h rfl).elim⟩
 .have:=eq_of_mem_replicate hh;rw[this];exact Nat.zero_le _
 .rw[mem_singleton.1 hl];simp
 .rw[mem_singleton.1 hl] at hf;rw[mem_singleton.1 hf];refine⟨⟨q,hq,?_,by simp[hq],?_⟩,(λ e he=>by cases he),?_⟩
  .obtain⟨⟨c,hc⟩,_⟩:=hu.pc q (mem_of_getElem? hq);rw[hc];simp
  .rw[hu.main] at hq;simp[(hu.p0 q hq).2]
  .exact mem_of_getElem? (uU u 100 0 [⟨u.main,[]⟩] [] [0] ⟨u.main,[]⟩ rfl)
def MX (u:Un):List Int->Sy->Sy
 | [],s=>s
 | t::r,s=>MX u r (if (gr u s t).2=true then (gr u s t).1 else s)
theorem pK.mono {u:Un}{k k':Nat}{s:Sy}(h:pK u k s)(hk:k<=k'):pK u k' s:=by
 refine⟨h.gs,h.tb,λ x hx=>?_,h.ho,h.ts,λ l hl=>?_,h.fr⟩
 .have:=h.hd x hx;exact⟨by omega,this.2⟩
 .have:=h.fl l hl;omega
theorem JQ {u:Un}(hu:gg u):∀ (l:List Int) {k:Nat} {s:Sy},pK u k s->pK u (k+l.length) (MX u l s)
 | [],_,_,h=>h
 | t::r,k,s,h=>by
  have h1:pK u (k+1) (if (gr u s t).2=true then (gr u s t).1 else s):=by
   split
   .exact FY hu h t
   .exact h.mono yA
  have:=JQ hu r h1;simp only[MX,length_cons];rw[show k+(r.length+1)=k+1+r.length by omega];exact this
set_option maxHeartbeats 4000000
theorem sr {s:Sy}(h:Hj s):s.ts.length<=1000000/\∀ l∈s.ts,l.length<=1000000:=⟨h.t,λ l hl=>(h.f l hl).1⟩
theorem rz (s:Sy)(t:Nat)(l0:List Fr)(f:Fr)(hl:s.ts[t]? = some (l0++[f]))(hs:Hj s):Body prog av 41 [cU s] [] 0 (iO (.agg [.a7 0 0 s.gs.length,.a7 1 0 s.tb.length,.a7 2 0 s.ts.length,I s.fault]) (Mq s t l0 f) 6):=by
 have h:=Cs s t l0 f (λ _=>hl) hs.g hs.b hs.t hs.f;rwa [if_pos (List.getElem?_eq_some_iff.1 hl).1] at h
theorem Qn (s:Sy)(t:Nat)(l0:List Fr)(f:Fr)(g:Nat)(e:Ex)(he:vF s.gs.length f.aV.length e)(hl:s.ts[t]? = some (l0++[f]))(Tq:s.fault=0)(hs:Hj s)(hr:D7 s)(h6:f.pc<=1000000) :
  ae prog 44 [cU s,I t,.agg (cY (.branch g e))] (.cF [cU (Pp s t l0 f g e),.bool true]):=by
 have Va:eX s t=some f:=by simp[eX,hl,Tq]
 have hmf:f∈l0++[f]:=by simp
 have VA:=mem_of_getElem? hl;have TY:=(hs.f _ VA).1;have UI:l0.length<=1000000:=by simp at TY;omega
 have Wk:=sC s t (sr hs);rw[Va] at Wk;have TV:=rz s t l0 f hl hs;have To:=sF s.gs f.aV hr.gs (hr.vs _ VA f hmf) e he;have WR:=jA s hs (bO s.gs f.aV e).2;have TK:=cI s;have ttp:trees [cU s,I t]=true:=by simp only[trees,tree,TK,Bool.and_self]
 have WM:trees [cU s,I (bO s.gs f.aV e).2]=true:=by simp only[trees,tree,TK,Bool.and_self]
 have SJ:tree (.cF [cU (Pp s t l0 f g e),.bool true])=true:=by simp only[tree,trees,cI,Bool.and_self]
 have XM:Pp s t l0 f g e=if (bO s.gs f.aV e).2=0 then { s with ts:=s.ts.set t (l0++[{ f with pc:=if (bO s.gs f.aV e).1=0 then g else f.pc+1 }]) } else { s with fault:=(bO s.gs f.aV e).2 }:=rfl
 refine ae.aD af Tryz.func44 rfl Bw (by simp[Tryz.ntmps44]) SJ λ C hC M0=>?_;rw[Tryz.ntmps44] at hC;rw[XM];generalize bO s.gs f.aV e=va at To WR WM |-;obtain⟨v,fa⟩:=va;have tev:trees [.agg (bf e),ints s.gs,ints f.aV]=true:=by simp only[trees,tree,aO,de,Bool.and_self]
 obtain⟨e1,e2,e3,e4,e5,YJ,tec⟩:=gf e;rw[YJ] at To tev;have tG:trees (s.gs.map dg)=true:=aP s.gs;have tT:trees (s.tb.flatMap dN)=true:=ak cm _;have tL:trees (l0.flatMap ed)=true:=ak dc _;have tV:trees (f.aV.map dg)=true:=aP f.aV;have tE:=aC f.eD;have S9:trees ((s.ts.take t).flatMap ez)=true:=ak b9 _;have Ti:trees ((s.ts.drop (t+1)).flatMap ez)=true:=ak b9 _;have rG:=λ ρ=>ah ρ _ tG;have rT:=λ ρ=>ah ρ _ tT;have rL:=λ ρ=>ah ρ _ tL;have rV:=λ ρ=>ah ρ _ tV;have r1:=λ ρ=>ah ρ _ S9;have r2:=λ ρ=>ah ρ _ Ti;have rE:=λ ρ=>ah ρ _ tE;have ra:∀ ρ (a b:List CV),aX ρ (a++b)=aX ρ a++aX ρ b:=λ ρ a b=>by rw[cd,cd,cd,map_append]
 simp only[cU,lJ,ints,cY,YJ,oE,cons_append,nil_append,uk,ed,Mq] at *;apply aq;simp[hC];refine T.seq (T.rx af follows [0,1,2,3,4,5,6,7,8,9,10,11,12,13,14,15] [(1,6),(3,6)] Bw ?_);simp[hC];refine RX.call rfl xr rfl rfl rfl ttp Wk ?_;simp;refine RX.call rfl xr rfl rfl rfl tev To ?_;simp;by_cases hf:fa=0
 .subst hf
  repeat first
   | apply T.seq
   | (apply aM;simp[hC])
   | (refine bg ?_;simp)
   | (refine du ?_;simp)
   | (apply T.skip;simp)
   | apply T.block
  refine TL.er af [] [] 0 6 (TV) rfl Ts Rg rfl rfl Ta Ta Xe Ta Ta (TL.go' af ?_);simp[hC,bz,bb,aX,cO,bU,rG,rT,rL,rV,r1,r2,ra,aA];refine T.le (Le.norm [10,8,7,6,5,1] [(19,0),(20,1),(21,2),(22,3),(23,4),(25,5),(2,6),(1,7)] 0 8 SZ SY Xu yA) ?_;simp[cq,bb,aX,cO,ec,assoc,rG,rT,rL,rV,r1,r2,ra];generalize hA:(s.ts.take t).flatMap ez=A at S9 r1 |-;generalize hB:(s.ts.drop (t+1)).flatMap ez=B at Ti r2 |-;generalize hD:l0.flatMap ed=D at tL rL |-;have SM:=(List.getElem?_eq_some_iff.1 hl).1;have lA:A.length=t:=by rw[<- hA,gh,length_map,length_take];omega
  have lB:B.length=s.ts.length-(t+1):=by rw[<- hB,gh,length_map,length_drop]
  have lD:D.length=l0.length*4:=by rw[<- hD];exact aG en l0
  have WN:=ld s.gs.length s.tb.length s.ts.length t l0.length f.proc f.pc f.aV.length f.eD.length A B D _ _ S9 Ti tL tE tV _ (.inl rfl) lA lD SM hs.t UI;rw[Tq];apply aq;simp[hC];have a1:A.all (aU 5)=true:=by rw[<- aT];exact bF 5 _ S9
  have a2:B.all (aU 5)=true:=by rw[<- aT];exact bF 5 _ Ti
  have a3:D.all (aU 5)=true:=by rw[<- aT];exact bF 5 _ tL
  refine TL.er af [0,1,2,3,4] [2,3,4] 5 0 WN rfl Ts Rg rfl rfl Ts yCb Ts yCa yBv (TL.go' af ?_);simp[hC,bz,bb,aX,cO,bU,rL,rV,r1,r2,ra];have dD:∀ r:List CV,(D++r).drop (l0.length*4)=r:=λ r=>by rw[<- lD];simp
  have U7:∀ (r:List CV) (k:Nat),(D++r).drop (l0.length*4+k)=r.drop k:=λ r k=>by rw[<- lD,drop_append];simp
  have V3:∀ (r:List CV) (k:Nat),(D++r).take (l0.length*4+k)=D++r.take k:=λ r k=>by rw[<- lD,take_append,take_of_length_le yA];simp
  have Wd:∀ (r:List CV),(D++r).drop (l0.length*4+1+1)=r.drop 2:=λ r=>U7 r 2;have w3:=cr ((f.pc:Int)+1) yA yA;have SQ:∀ pc:Nat,(s.ts.set t (l0++[{ f with pc:=pc }])).flatMap ez=A++.az (D++[I f.proc,I pc,.az (f.aV.map dg) f.aV.length,.az (f.eD.map λ n:Nat=>I n) f.eD.length]) (l0.length+1)::B:=λ pc=>by
   rw[set_eq_take_append_cons_drop,if_pos SM,flatMap_append,flatMap_cons,hA,hB];simp[ez,ed,hD,ints,aA]
  have kF:∀ a b c d:CV,take ((l0.length+1)*4) (D++[a,b,c,d])=D++[a,b,c,d]:=λ a b c d=>take_of_length_le Tv;apply aq;simp[hC,w3,lD,U7,V3,Wd];by_cases hv:v=0
  .subst hv
   repeat first
    | apply T.seq
    | (apply aM;simp[hC,lD,V3,Wd])
    | (refine T.cond (b:=false) ?_ ?_;(first | rfl | (simp[ev,assoc];done));simp)
    | (refine T.cond (b:=true) ?_ ?_;(first | rfl | (simp[ev,assoc,lD,dD,U7,V3,Wd];done));simp)
    | (apply T.skip;simp)
    | apply T.block
   apply T.ret;refine aa.le (Le.norm [7,6] [(0,0),(1,1),(2,2),(3,3),(4,4),(6,5)] 0 6 SZ SY Xu yA) ?_;simp[cq,bb,aX,cO,ec,assoc,rG,rT,rL,rV,r1,r2,ra];refine lY tG tT S9 Ti tL tE tV rfl xr (aG dh _) yA xr ?_;simp[SQ,kF]
  .have hv2:(v == 0)=false:=by rw[beq_eq_false_iff_ne];exact hv
   repeat first
    | apply T.seq
    | (apply aM;simp[hC,hv,hv2])
    | (refine T.cond (b:=false) ?_ ?_;(first | rfl | (simp[ev,assoc];done));simp)
    | (refine T.cond (b:=true) ?_ ?_;(first | rfl | (simp[ev,assoc,lD,dD,U7,V3,Wd,hv,hv2];done));simp)
    | (apply T.skip;simp)
    | apply T.block
   apply T.ret;refine aa.le (Le.norm [7,6] [(0,0),(1,1),(2,2),(3,3),(4,4),(6,5)] 0 6 SZ SY Xu yA) ?_;simp[cq,bb,aX,cO,ec,assoc,rG,rT,rL,rV,r1,r2,ra];refine lY tG tT S9 Ti tL tE tV rfl xr (aG dh _) yA xr ?_;simp[SQ,kF]
 .have Tm:((fa:Int) != 0)=true:=by rw[bne_iff_ne];omega
  repeat first
   | apply T.seq
   | (apply aM;simp[hC,Tm])
   | (refine T.cond (b:=false) ?_ ?_;(first | rfl | (simp[ev,assoc];done));simp)
   | (refine T.cond (b:=true) ?_ ?_;(first | rfl | (simp[ev,assoc,Tm];done));simp)
   | (apply T.skip;simp)
   | apply T.block
  refine cS WM WR ?_;simp[hC];apply T.ret;refine aa.le (Le.trim [7,6] [2] 19 Vn yA) ?_;simp;apply aa.here;simp[hf]
theorem Ni (s:Sy)(t:Nat)(l0:List Fr)(f:Fr)(k:Nat)(gl:Bool)(e:Ex)(hk:if gl=true then k<s.gs.length else k<f.aV.length)(he:vF s.gs.length f.aV.length e)(hl:s.ts[t]? = some (l0++[f]))(Tq:s.fault=0)(hs:Hj s)(hr:D7 s)(h6:f.pc<=1000000) :
  ae prog 44 [cU s,I t,.agg (cY (.set k gl e))] (.cF [cU (OO s t l0 f k gl e),.bool true]):=by
 have Va:eX s t=some f:=by simp[eX,hl,Tq]
 have hmf:f∈l0++[f]:=by simp
 have VA:=mem_of_getElem? hl;have TY:=(hs.f _ VA).1;have UI:l0.length<=1000000:=by simp at TY;omega
 have Wk:=sC s t (sr hs);rw[Va] at Wk;have TV:=rz s t l0 f hl hs;have To:=sF s.gs f.aV hr.gs (hr.vs _ VA f hmf) e he;have WR:=jA s hs (bO s.gs f.aV e).2;have TK:=cI s;have ttp:trees [cU s,I t]=true:=by simp only[trees,tree,TK,Bool.and_self]
 have WM:trees [cU s,I (bO s.gs f.aV e).2]=true:=by simp only[trees,tree,TK,Bool.and_self]
 have SJ:tree (.cF [cU (OO s t l0 f k gl e),.bool true])=true:=by simp only[tree,trees,cI,Bool.and_self]
 have XM:OO s t l0 f k gl e=if (bO s.gs f.aV e).2=0 then
  (if gl=true then { s with gs:=s.gs.set k (bO s.gs f.aV e).1,ts:=s.ts.set t (l0++[{ f with pc:=f.pc+1 }]) }
   else { s with ts:=s.ts.set t (l0++[{ f with pc:=f.pc+1,aV:=f.aV.set k (bO s.gs f.aV e).1 }]) })
  else { s with fault:=(bO s.gs f.aV e).2 }:=rfl
 refine ae.aD af Tryz.func44 rfl Bw (by simp[Tryz.ntmps44]) SJ λ C hC M0=>?_;rw[Tryz.ntmps44] at hC;rw[XM];generalize bO s.gs f.aV e=va at To WR WM |-;obtain⟨v,fa⟩:=va;have tev:trees [.agg (bf e),ints s.gs,ints f.aV]=true:=by simp only[trees,tree,aO,de,Bool.and_self]
 obtain⟨e1,e2,e3,e4,e5,YJ,tec⟩:=gf e;rw[YJ] at To tev;have tG:trees (s.gs.map dg)=true:=aP s.gs;have tT:trees (s.tb.flatMap dN)=true:=ak cm _;have tL:trees (l0.flatMap ed)=true:=ak dc _;have tV:trees (f.aV.map dg)=true:=aP f.aV;have tE:=aC f.eD;have S9:trees ((s.ts.take t).flatMap ez)=true:=ak b9 _;have Ti:trees ((s.ts.drop (t+1)).flatMap ez)=true:=ak b9 _;have rG:=λ ρ=>ah ρ _ tG;have rT:=λ ρ=>ah ρ _ tT;have rL:=λ ρ=>ah ρ _ tL;have rV:=λ ρ=>ah ρ _ tV;have r1:=λ ρ=>ah ρ _ S9;have r2:=λ ρ=>ah ρ _ Ti;have rE:=λ ρ=>ah ρ _ tE;have ra:∀ ρ (a b:List CV),aX ρ (a++b)=aX ρ a++aX ρ b:=λ ρ a b=>by rw[cd,cd,cd,map_append]
 simp only[cU,lJ,ints,cY,YJ,oE,cons_append,nil_append,uk,ed,Mq] at *;apply aq;simp[hC];refine T.seq (T.rx af follows [0,1,2,3,4,5,6,7,8,9,10,11,12,13,14,15] [(1,6),(3,6)] Bw ?_);simp[hC];refine RX.call rfl xr rfl rfl rfl ttp Wk ?_;simp;refine RX.call rfl xr rfl rfl rfl tev To ?_;simp;by_cases hf:fa=0
 .subst hf
  repeat first
   | apply T.seq
   | (apply aM;simp[hC])
   | (refine bg ?_;simp)
   | (refine du ?_;simp)
   | (apply T.skip;simp)
   | apply T.block
  refine TL.er af [] [] 0 6 (TV) rfl Ts Rg rfl rfl Ta Ta Xe Ta Ta (TL.go' af ?_);simp[hC,bz,bb,aX,cO,bU,rG,rT,rL,rV,r1,r2,ra,aA];refine T.le (Le.norm [10,8,7,6,5,1] [(19,0),(20,1),(21,2),(22,3),(23,4),(25,5),(2,6),(1,7)] 0 8 SZ SY Xu yA) ?_;simp[cq,bb,aX,cO,ec,assoc,rG,rT,rL,rV,r1,r2,ra];generalize hA:(s.ts.take t).flatMap ez=A at S9 r1 |-;generalize hB:(s.ts.drop (t+1)).flatMap ez=B at Ti r2 |-;generalize hD:l0.flatMap ed=D at tL rL |-;have SM:=(List.getElem?_eq_some_iff.1 hl).1;have lA:A.length=t:=by rw[<- hA,gh,length_map,length_take];omega
  have lB:B.length=s.ts.length-(t+1):=by rw[<- hB,gh,length_map,length_drop]
  have lD:D.length=l0.length*4:=by rw[<- hD];exact aG en l0
  have WN:=ld s.gs.length s.tb.length s.ts.length t l0.length f.proc f.pc f.aV.length f.eD.length A B D _ _ S9 Ti tL tE tV _ (.inl rfl) lA lD SM hs.t UI;rw[Tq];apply aq;simp[hC];have a1:A.all (aU 5)=true:=by rw[<- aT];exact bF 5 _ S9
  have a2:B.all (aU 5)=true:=by rw[<- aT];exact bF 5 _ Ti
  have a3:D.all (aU 5)=true:=by rw[<- aT];exact bF 5 _ tL
  refine TL.er af [0,1,2,3,4] [2,3,4] 5 0 WN rfl Ts Rg rfl rfl Ts yCb Ts yCa yBv (TL.go' af ?_);simp[hC,bz,bb,aX,cO,bU,rL,rV,r1,r2,ra];have dD:∀ r:List CV,(D++r).drop (l0.length*4)=r:=λ r=>by rw[<- lD];simp
  have U7:∀ (r:List CV) (k:Nat),(D++r).drop (l0.length*4+k)=r.drop k:=λ r k=>by rw[<- lD,drop_append];simp
  have V3:∀ (r:List CV) (k:Nat),(D++r).take (l0.length*4+k)=D++r.take k:=λ r k=>by rw[<- lD,take_append,take_of_length_le yA];simp
  have Wd:∀ (r:List CV),(D++r).drop (l0.length*4+1+1)=r.drop 2:=λ r=>U7 r 2;have w3:=cr ((f.pc:Int)+1) yA yA;have kF:∀ a b c d:CV,take ((l0.length+1)*4) (D++[a,b,c,d])=D++[a,b,c,d]:=λ a b c d=>take_of_length_le Tv;apply aq;simp[hC,w3,lD,U7,V3,Wd]
  cases gl with
  | true=>
   have hkg:k<s.gs.length:=hk;have hkg2:k+1<=s.gs.length:=hkg;have eG:take k (s.gs.map dg)++I v::drop (k+1) (s.gs.map dg)=(s.gs.set k v).map dg:=by
    rw[map_set,set_eq_take_append_cons_drop,if_pos (by simpa using hkg)]
   have Wb:(s.gs.set k v).length=s.gs.length:=by simp
   generalize s.gs.set k v=W at eG Wb |-;have SQ:(s.ts.set t (l0++[{ f with pc:=f.pc+1 }])).flatMap ez=A++.az (D++[I f.proc,I ((f.pc:Int)+1),.az (f.aV.map dg) f.aV.length,.az (f.eD.map λ n:Nat=>I n) f.eD.length]) (l0.length+1)::B:=by
    rw[set_eq_take_append_cons_drop,if_pos SM,flatMap_append,flatMap_cons,hA,hB];simp[ez,ed,hD,ints,aA]
   have tW:trees (W.map dg)=true:=aP W;have rW:=λ ρ=>ah ρ _ tW
   repeat first
    | apply T.seq
    | (apply aM;simp[hC,hkg,hkg2,eG])
    | (refine T.cond (b:=false) ?_ ?_;(first | rfl | (simp[ev,assoc];done));simp)
    | (refine T.cond (b:=true) ?_ ?_;(first | rfl | (simp[ev,assoc,lD,dD,U7,V3,Wd,hkg,hkg2,eG];done));simp)
    | (apply T.skip;simp)
    | apply T.block
   apply T.ret;refine aa.le (Le.norm [7,6] [(0,0),(1,1),(2,2),(3,3),(4,4),(6,5)] 0 6 SZ SY (by simp[cB,mZ,lF,tree,assoc,-all_eq_true,-all_flatMap,au tW,au tT,au tL,au tV,au S9,au Ti]) yA) ?_;simp[cq,bb,aX,cO,ec,assoc,rW,rT,rL,rV,r1,r2,ra];refine lY tW tT S9 Ti tL tE tV rfl (by simp[Wb]) (aG dh _) yA xr ?_;simp[SQ,kF,Wb]
  | false=>
   have SO:k<f.aV.length:=hk;have YC:k+1<=f.aV.length:=SO;have eV:take k (f.aV.map dg)++I v::drop (k+1) (f.aV.map dg)=(f.aV.set k v).map dg:=by
    rw[map_set,set_eq_take_append_cons_drop,if_pos (by simpa using SO)]
   have Wb:(f.aV.set k v).length=f.aV.length:=by simp
   generalize f.aV.set k v=W at eV Wb |-;have SQ:(s.ts.set t (l0++[{ f with pc:=f.pc+1,aV:=W }])).flatMap ez=A++.az (D++[I f.proc,I ((f.pc:Int)+1),.az (W.map dg) f.aV.length,.az (f.eD.map λ n:Nat=>I n) f.eD.length]) (l0.length+1)::B:=by
    rw[set_eq_take_append_cons_drop,if_pos SM,flatMap_append,flatMap_cons,hA,hB];simp[ez,ed,hD,ints,aA,Wb]
   have tW:trees (W.map dg)=true:=aP W;have rW:=λ ρ=>ah ρ _ tW
   repeat first
    | apply T.seq
    | (apply aM;simp[hC])
    | (refine T.cond (b:=false) ?_ ?_;(first | rfl | (simp[ev,assoc,lD,dD,U7,V3,Wd];done));simp)
    | (refine T.cond (b:=true) ?_ ?_;(first | rfl | (simp[ev,assoc,lD,dD,U7,V3,Wd];done));simp)
    | (apply T.skip;simp)
    | apply T.block
   refine T.rx af follows [0,1,2,3,4,5,6,7,8] [] Bw ?_;simp[hC,SO,YC,U7,eV]
   repeat first
    | apply T.seq
    | (apply aM;simp[hC])
    | (refine T.cond (b:=false) ?_ ?_;(first | rfl | (simp[ev,assoc,lD];done));simp)
    | (refine T.cond (b:=true) ?_ ?_;(first | rfl | (simp[ev,assoc,lD];done));simp)
    | (apply T.skip;simp)
    | apply T.block
   apply T.ret;refine aa.le (Le.norm [7,6] [(0,0),(1,1),(2,2),(3,3),(4,4),(6,5)] 0 6 SZ SY (by simp[cB,mZ,lF,tree,assoc,-all_eq_true,-all_flatMap,au tG,au tT,au tL,au tW,au S9,au Ti]) yA) ?_;simp[cq,bb,aX,cO,ec,assoc,rG,rT,rL,rW,r1,r2,ra];refine lY tG tT S9 Ti tL tE tW rfl xr (aG dh _) yA (by simp[Wb]) ?_;simp[SQ,kF]
 .have Tm:((fa:Int) != 0)=true:=by rw[bne_iff_ne];omega
  repeat first
   | apply T.seq
   | (apply aM;simp[hC,Tm])
   | (refine T.cond (b:=false) ?_ ?_;(first | rfl | (simp[ev,assoc];done));simp)
   | (refine T.cond (b:=true) ?_ ?_;(first | rfl | (simp[ev,assoc,Tm];done));simp)
   | (apply T.skip;simp)
   | apply T.block
  refine cS WM WR ?_;simp[hC];apply T.ret;refine aa.le (Le.trim [7,6] [2] 19 Vn yA) ?_;simp;apply aa.here;simp[hf]
theorem Kc (ms:List Mx)(hm:FI ms)(tb:List Ho)(e th:Nat)(he:e<(bT ms).length)(hl:tb.length=(bT ms).length)(ho:∀ m∈bT ms,m<ms.length)(ht:th<=1000000)(hb:tb.length<=1000000)(hd:∀ h∈tb,h.o<=1000000) :
  ae prog 135 [.az (ms.flatMap cP) ms.length,.az (tb.flatMap dN) tb.length,I e,I th] (.bool (xW ms tb e th)):=by
 obtain⟨m,Zt⟩:∃ m,(bT ms)[e]? = some m:=⟨_,getElem?_eq_getElem he⟩;have UB:e<tb.length:=by omega
 obtain⟨h,hh⟩:∃ h,tb[e]? = some h:=⟨_,getElem?_eq_getElem UB⟩;have hhd:=hd h (mem_of_getElem? hh);have Ua:=ho m (mem_of_getElem? Zt);obtain⟨x,hx⟩:∃ x,ms[m]? = some x:=⟨_,getElem?_eq_getElem Ua⟩;have hmo:=vk ms hm e yA;have hmv:lj ms e=m:=by simp[lj,Zt,show ¬ (e:Int)<0 by omega]
 rw[hmv] at hmo;have hf:xW ms tb e th=(decide (h.o=0) || (decide (h.o=th+1) && x.re)):=by simp only[xW,Zt,hh,hx]
 rw[hf];have WI:=aL (f:=dN) (n:=2) dh hh;have UD:=cb (f:=cP) (n:=3) (λ _=>rfl) hx 1 yA;have MY:trees [.az (ms.flatMap cP) ms.length,I e]=true:=by simp only[trees,tree,Bool.and_self]
 have wt:=cr ((h.o:Int)-1) yA yA;have Wx:¬ (m:Int)<0:=by omega
 have U5:¬ (th:Int)<0:=by omega
 have YZ:¬ (tb.length<=e):=by omega
 refine ae.aD af Tryz.func135 rfl Bw (by simp[Tryz.ntmps135]) rfl λ C hC M0=>?_;rw[Tryz.ntmps135] at hC;apply aq;simp[hC];apply aq;simp[hC];refine cS MY hmo ?_;simp[hC];apply aW;simp[hC,Wx,U5,YZ];refine gk ?_;simp;by_cases h0:h.o=0
 .repeat first
   | apply T.seq
   | (apply aM;simp[hC,UB,WI,dN,h0])
   | (refine T.cond (b:=false) ?_ ?_;(first | rfl | (simp[ev,assoc,UB,WI,dN,h0];done));simp)
   | (refine T.cond (b:=true) ?_ ?_;(first | rfl | (simp[ev,assoc,UB,WI,dN,h0];done));simp)
   | (apply T.skip;simp)
   | apply T.block
  apply T.ret;apply aa.here;simp[Tryz.results135]
 .by_cases h1:h.o=th+1
  .have hz:((h.o:Int)-1 == (th:Int))=true:=by rw[beq_iff_eq];omega
   repeat first
    | apply T.seq
    | (apply aM;simp[hC,UB,WI,dN,h0,hz,wt,Ua,UD,cP])
    | (refine T.cond (b:=false) ?_ ?_;(first | rfl | (simp[ev,assoc,UB,WI,dN,h0,hz,wt,Ua,UD,cP];done));simp)
    | (refine T.cond (b:=true) ?_ ?_;(first | rfl | (simp[ev,assoc,UB,WI,dN,h0,hz,wt,Ua,UD,cP];done));simp)
    | (apply T.skip;simp)
    | apply T.block
   apply T.ret;apply aa.here;simp[Tryz.results135,h1]
  .have hz:((h.o:Int)-1 == (th:Int))=false:=by rw[beq_eq_false_iff_ne];omega
   repeat first
    | apply T.seq
    | (apply aM;simp[hC,UB,WI,dN,h0,hz,wt])
    | (refine T.cond (b:=false) ?_ ?_;(first | rfl | (simp[ev,assoc,UB,WI,dN,h0,hz,wt,Ua,UD,cP];done));simp)
    | (refine T.cond (b:=true) ?_ ?_;(first | rfl | (simp[ev,assoc,UB,WI,dN,h0,hz,wt,Ua,UD,cP];done));simp)
    | (apply T.skip;simp)
    | apply T.block
   apply T.ret;apply aa.here;simp[Tryz.results135,h1]
theorem J9 (ms:List Mx)(hm:FI ms)(tb:List Ho)(e th:Nat)(he:e<(bT ms).length)(hl:tb.length=(bT ms).length)(ho:∀ m∈bT ms,m<ms.length)(ht:th<=1000000)(hb:tb.length<=1000000)(hd:∀ h∈tb,h.d<=1000000)(V9:∀ h∈tb,h.o<=1000000) :
  ae prog 93 [.az (ms.flatMap cP) ms.length,.az (tb.flatMap dN) tb.length,I e,I th] (.cF [.az ((fM ms tb e th).1.flatMap dN) (fM ms tb e th).1.length,.bool (fM ms tb e th).2]):=by
 have UB:e<tb.length:=by omega
 obtain⟨h,hh⟩:∃ h,tb[e]? = some h:=⟨_,getElem?_eq_getElem UB⟩;have hhd:=hd h (mem_of_getElem? hh);have Up:=Kc ms hm tb e th he hl ho ht hb V9;have ttb:=ak cm tb;have MY:trees [.az (ms.flatMap cP) ms.length,.az (tb.flatMap dN) tb.length,I e,I th]=true:=by simp only[trees,tree,Bool.and_self]
 have WI:=cb (f:=dN) (n:=2) dh hh 1 yA;have wt:=cr ((th:Int)+1) yA yA;have wd:=cr ((h.d:Int)+1) yA yA;have Tg:(tb.flatMap dN).length=tb.length*2:=aG (f:=dN) (n:=2) dh tb;have tke:take (tb.length*2) (tb.flatMap dN)=tb.flatMap dN:=take_of_length_le yA;have rL:=λ ρ=>ah ρ _ ttb;refine ae.aD af Tryz.func93 rfl Bw (by simp[Tryz.ntmps93]) rfl λ C hC M0=>?_;rw[Tryz.ntmps93] at hC;apply aq;simp[hC];apply aq;simp[hC];refine TL.er af [] [] 0 1 (uT tb hb) rfl Ts Rg rfl rfl Ta Ta Xe Ta Ta (TL.go' af ?_);simp[hC,bz,bb,cO,bU,rL];apply aW;simp[hC];refine cS MY Up ?_;simp[hC]
 cases hf:xW ms tb e th with
 | false=>
  refine T.cond (b:=true) Tt ?_;simp;apply aq;simp[hC];apply T.ret;refine aa.le (Le.trim [8,9] [0] 1 yCv yA) ?_;simp;refine aa.le (Le.di (o:=0) rfl ttb) ?_;simp[tke];apply aa.here;simp[fM,hf]
 | true=>
  have Xo:fM ms tb e th=(tb.set e ⟨th+1,h.d+1⟩,true):=by simp only[fM,hf,hh,if_true]
  rw[Xo];refine T.cond (b:=false) Tt (T.skip ?_);simp;have T0:e*2+2<=tb.length*2:=by omega
  have SQ:=K4 ⟨th+1,h.d+1⟩ tb e UB;rw[show (((th+1:Nat):Int))=(th:Int)+1 from rfl,show (((h.d+1:Nat):Int))=(h.d:Int)+1 from rfl] at SQ;have tst:=ak cm (tb.set e ⟨th+1,h.d+1⟩);have tks:take (tb.length*2) ((tb.set e ⟨th+1,h.d+1⟩).flatMap dN)=(tb.set e ⟨th+1,h.d+1⟩).flatMap dN:=take_of_length_le yCf;apply aq;simp[hC,UB,WI,dN,Tg,wt,wd,T0];rw[SQ];apply aq;simp[hC];apply T.ret;refine aa.le (Le.trim [8,9] [0] 1 yCc yA) ?_;simp;refine aa.le (Le.di (o:=0) rfl tst) ?_;simp[tks];apply aa.here;simp
theorem EH (ms:List Mx)(tb:List Ho)(e th:Nat)(he:e<(bT ms).length)(hl:tb.length=(bT ms).length)(ht:th<=1000000)(hb:tb.length<=1000000)(hd:∀ h∈tb,h.d<=1000000/\(h.o≠0->0<h.d))(V9:∀ h∈tb,h.o<=1000000) :
  ae prog 94 [.az (ms.flatMap cP) ms.length,.az (tb.flatMap dN) tb.length,I e,I th] (.cF [.az ((dt ms tb e th).1.flatMap dN) (dt ms tb e th).1.length,.bool (dt ms tb e th).2]):=by
 have UB:e<tb.length:=by omega
 obtain⟨m,Zt⟩:∃ m,(bT ms)[e]? = some m:=⟨_,getElem?_eq_getElem he⟩;obtain⟨h,hh⟩:∃ h,tb[e]? = some h:=⟨_,getElem?_eq_getElem UB⟩;obtain⟨hhd,hhp⟩:=hd h (mem_of_getElem? hh);have hho:=V9 h (mem_of_getElem? hh);have ttb:=ak cm tb;have WI:=aL (f:=dN) (n:=2) dh hh;have wt:=cr ((h.o:Int)-1) yA yA;have Tg:(tb.flatMap dN).length=tb.length*2:=aG (f:=dN) (n:=2) dh tb;have tke:take (tb.length*2) (tb.flatMap dN)=tb.flatMap dN:=take_of_length_le yA;have WK:(tb.flatMap dN)[e*2+1]? = some (I h.d):=by rw[<- getElem?_drop,WI];rfl
 have rL:=λ ρ=>ah ρ _ ttb;have Wx:¬ (e:Int)<0:=by omega
 have U5:¬ (th:Int)<0:=by omega
 have YZ:¬ (tb.length<=e):=by omega
 have hul:dt ms tb e th=if h.o=th+1 then (tb.set e (if h.d=1 then ⟨0,0⟩ else ⟨th+1,h.d-1⟩),true) else (tb,false):=by simp only[dt,Zt,hh]
 rw[hul];refine ae.aD af Tryz.func94 rfl Bw (by simp[Tryz.ntmps94]) rfl λ C hC M0=>?_;rw[Tryz.ntmps94] at hC;apply aq;simp[hC];apply aq;simp[hC];refine TL.er af [] [] 0 1 (uT tb hb) rfl Ts Rg rfl rfl Ta Ta Xe Ta Ta (TL.go' af ?_);simp[hC,bz,bb,cO,bU,rL];by_cases WO:h.o=th+1
 .rw[if_pos WO];have W1:((h.o:Int)-1 != (th:Int))=false:=by rw[bne_eq_false_iff_eq];omega
  have UQ:=hhp yA;apply aW;simp[hC,Wx,U5,YZ,UB,WI,dN,wt,W1];refine gk ?_;simp;have wd:=cr ((h.d:Int)-1) yA yA;have T0:e*2+2<=tb.length*2:=by omega
  have hsd:=GL (h.d-1) tb e h hh;rw[show (((h.d-1:Nat):Int))=(h.d:Int)-1 by omega] at hsd;apply aq;simp[hC,UB,WK,Tg,wd,T0];rw[show e*2+1+1=e*2+2 from rfl,hsd];have hh2:(tb.set e ⟨h.o,h.d-1⟩)[e]? = some ⟨h.o,h.d-1⟩:=by rw[getElem?_set,if_pos rfl,if_pos UB]
  have TO:(tb.set e ⟨h.o,h.d-1⟩).length=tb.length:=by simp
  have hss:(tb.set e ⟨h.o,h.d-1⟩).set e ⟨0,h.d-1⟩=tb.set e ⟨0,h.d-1⟩:=by simp
  have hho:(⟨h.o,h.d-1⟩:Ho)=⟨th+1,h.d-1⟩:=by rw[WO]
  by_cases Tz:h.d=1
  .rw[if_pos Tz];generalize tb.set e ⟨h.o,h.d-1⟩=t2 at hh2 TO hss;have W3:=GK 0 t2 e _ hh2;rw[hss,show (⟨0,h.d-1⟩:Ho)=⟨0,0⟩ by rw[Tz],show (((0:Nat):Int))=0 from rfl] at W3;have ZA:=aL (f:=dN) (n:=2) dh hh2;have T7:(t2.flatMap dN)[e*2+1]? = some (I 0):=by rw[<- getElem?_drop,ZA];simp[dN,Tz]
   have W8:(t2.flatMap dN).length=tb.length*2:=by rw[aG (f:=dN) (n:=2) dh,TO]
   have hb3:e*2+1<=tb.length*2:=by omega
   have tst:=ak cm (tb.set e ⟨0,0⟩);have tks:take (tb.length*2) ((tb.set e ⟨0,0⟩).flatMap dN)=(tb.set e ⟨0,0⟩).flatMap dN:=take_of_length_le yCf;apply aW;simp[hC,UB,T7];refine du ?_;simp;apply aM;simp[hC,UB,W8,hb3];rw[W3];apply aq;simp[hC];apply T.ret;refine aa.le (Le.trim [8,9] [0] 1 yCc yA) ?_;simp;refine aa.le (Le.di (o:=0) rfl tst) ?_;simp[tks];apply aa.here;simp
  .rw[if_neg Tz];rw[hho] at hh2 TO |-;have ZA:=aL (f:=dN) (n:=2) dh hh2;have tst:=ak cm (tb.set e ⟨th+1,h.d-1⟩);have tks:take (tb.length*2) ((tb.set e ⟨th+1,h.d-1⟩).flatMap dN)=(tb.set e ⟨th+1,h.d-1⟩).flatMap dN:=take_of_length_le yCf;have hlS:(tb.set e ⟨th+1,h.d-1⟩).length=tb.length:=by simp
   generalize tb.set e ⟨th+1,h.d-1⟩=t2 at hh2 TO ZA tst tks hlS |-;have T7:(t2.flatMap dN)[e*2+1]? = some (I (h.d-1:Nat)):=by rw[<- getElem?_drop,ZA];rfl
   have hnz:(((h.d-1:Nat):Int) == 0)=false:=by rw[beq_eq_false_iff_ne];omega
   apply aW;simp[hC,UB,T7,hnz];refine T.cond (b:=false) Tt (T.skip ?_);simp;apply aq;simp[hC];apply T.ret;refine aa.le (Le.trim [8,9] [0] 1 yCc yA) ?_;simp;refine aa.le (Le.di (o:=0) rfl tst) ?_;simp[tks];apply aa.here;simp
 .rw[if_neg WO];have W1:((h.o:Int)-1 != (th:Int))=true:=by rw[bne_iff_ne];omega
  apply aW;simp[hC,Wx,U5,YZ,UB,WI,dN,wt,W1];refine du ?_;simp;apply aq;simp[hC];apply T.ret;refine aa.le (Le.trim [8,9] [0] 1 yCv yA) ?_;simp;refine aa.le (Le.di (o:=0) rfl ttb) ?_;simp[tke];apply aa.here;simp
theorem Lj {C:Cx}{K:St->Prop}{r q:Nat}{bo:Bool}{G T S:List CV}{g b m:Nat}{fa:Int}(hG:trees G=true)(hT:trees T=true)(hS:trees S=true)(lG:G.length=g)(lT:T.length=b*2)(lS:S.length=m)
  (h:K ⟨[(q,.bool bo),(r,.ax 5 0)],[(5,⟨40,0,[.az G g,.az T b,.az S m,I fa]⟩)],6⟩) :
  aa C K ⟨[(q,.bool bo),(r,.ax 5 0)],[(0,⟨3,1,G⟩),(1,⟨122,2,T⟩),(2,⟨81,1,S⟩),(5,⟨40,0,[.a7 0 0 g,.a7 1 0 b,.a7 2 0 m,I fa]⟩)],6⟩:=by
 have kG:take g G=G:=take_of_length_le yA;have kT:take (b*2) T=T:=take_of_length_le yA;have kS:take m S=S:=take_of_length_le yA;refine aa.le (Le.di (o:=0) rfl hG) ?_;simp[kG,aN hT,aN hS];refine aa.le (Le.di (o:=1) rfl hT) ?_;simp[kT,aN hS];refine aa.le (Le.di (o:=2) rfl hS) ?_;simp[kS];exact aa.here h
def NY (s:Sy)(t:Nat)(l0:List Fr)(f:Fr)(un:Bool)(fa:Nat)(W:List Ho)(ok:Bool):Sy×Bool:=
 if fa=0 then (if ok=true then ({ s with tb:=W,ts:=s.ts.set t (l0++[{ f with pc:=f.pc+1 }]) },true) else if un=true then ({ s with fault:=3 },true) else (s,false)) else ({ s with fault:=fa },true)
theorem Cp (u:Un)(s:Sy)(t:Nat)(l0:List Fr)(f:Fr)(p:Pl)(un:Bool)(n fa:Nat)(W:List Ho)(ok:Bool)(hn:bV u s t p=((n:Int),fa))(hm:FI u.ms)(Yp:p.index<=1000000)(UC:wM u.ms s.gs.length f.aV.length f.eD.length p)
  (Xo:fa=0->ae prog (if un then 94 else 93) [.az (u.ms.flatMap cP) u.ms.length,.az (s.tb.flatMap dN) s.tb.length,I n,I t] (.cF [.az (W.flatMap dN) W.length,.bool ok])) (_hW:W.length=s.tb.length)
  (hl:s.ts[t]? = some (l0++[f])) (Tq:s.fault=0) (hs:Hj s) (hr:D7 s) (h6:f.pc<=1000000) :
  ae prog 43 [cf u,cU s,I t,.agg (cY (.lock un p))] (.cF [cU (NY s t l0 f un fa W ok).1,.bool (NY s t l0 f un fa W ok).2]):=by
 have Va:eX s t=some f:=by simp[eX,hl,Tq]
 have VA:=mem_of_getElem? hl;have TY:=(hs.f _ VA).1;have UI:l0.length<=1000000:=by simp at TY;omega
 have TV:=rz s t l0 f hl hs;have SP:=Fp s hs;have SK:=Cq u s t p hm hr (sr hs) Yp f Va UC;rw[hn] at SK;have WR:=jA s hs fa;have V8:=jA s hs 3;have TK:=cI s;have SH:=bm u;have txe:trees [cf u,cU s,I t,.agg (iq p)]=true:=by simp only[trees,tree,db,TK,cf,SH,Bool.and_self]
 have WM:trees [cU s,I fa]=true:=by simp only[trees,tree,TK,Bool.and_self]
 have tf3:trees [cU s,I (3:Nat)]=true:=by simp only[trees,tree,TK,Bool.and_self]
 have tlk:trees [.az (u.ms.flatMap cP) u.ms.length,.az (s.tb.flatMap dN) s.tb.length,I n,I t]=true:=by simp only[trees,tree,Bool.and_self]
 have SJ:tree (.cF [cU (NY s t l0 f un fa W ok).1,.bool (NY s t l0 f un fa W ok).2])=true:=by simp only[tree,trees,cI,Bool.and_self]
 refine ae.aD af Tryz.func43 rfl Bw (by simp[Tryz.ntmps43]) SJ λ C hC M0=>?_;rw[Tryz.ntmps43] at hC;clear SJ;unfold NY;obtain⟨p1,p2,p3,p4,gQ,tpc⟩:=pb p;rw[gQ] at SK txe;have tG:trees (s.gs.map dg)=true:=aP s.gs;have tT:trees (s.tb.flatMap dN)=true:=ak cm _;have tL:trees (l0.flatMap ed)=true:=ak dc _;have tV:trees (f.aV.map dg)=true:=aP f.aV;have tE:=aC f.eD;have S9:trees ((s.ts.take t).flatMap ez)=true:=ak b9 _;have Ti:trees ((s.ts.drop (t+1)).flatMap ez)=true:=ak b9 _;have rG:=λ ρ=>ah ρ _ tG;have rT:=λ ρ=>ah ρ _ tT;have rL:=λ ρ=>ah ρ _ tL;have rV:=λ ρ=>ah ρ _ tV;have r1:=λ ρ=>ah ρ _ S9;have r2:=λ ρ=>ah ρ _ Ti;have rE:=λ ρ=>ah ρ _ tE;have ra:∀ ρ (a b:List CV),aX ρ (a++b)=aX ρ a++aX ρ b:=λ ρ a b=>by rw[cd,cd,cd,map_append]
 have tS:trees (s.ts.flatMap ez)=true:=ak b9 _;have rS:=λ ρ=>ah ρ _ tS;have tW:trees (W.flatMap dN)=true:=ak cm _;have rW:=λ ρ=>ah ρ _ tW;simp only[cU,lJ,cf,dk,ints,cY,bf,gQ,cons_append,nil_append,Mq,Sl] at *;apply aq;simp[hC];apply aq;simp[hC];refine cS txe SK ?_;simp[hC];by_cases hf:fa=0
 .subst hf;have Xo:=Xo rfl
  repeat first
   | apply T.seq
   | (apply aM;simp[hC])
   | (refine bg ?_;simp)
   | (refine du ?_;simp)
   | (apply T.skip;simp)
   | apply T.block
  cases ok with
  | false=>
   cases un with
   | false=>
    repeat first
     | apply T.seq
     | (apply aM;simp[hC])
     | (refine bg ?_;simp)
     | (refine du ?_;simp)
     | (apply T.skip;simp)
     | apply T.block
    refine cS tlk Xo ?_;simp[hC]
    repeat first
     | apply T.seq
     | (apply aM;simp[hC])
     | (refine bg ?_;simp)
     | (refine du ?_;simp)
     | (apply T.skip;simp)
     | apply T.block
    refine TL.er af [] [] 0 6 (SP) rfl Ts Rg rfl rfl Ta Ta Xe Ta Ta (TL.go' af ?_);simp[hC,bz,bb,aX,cO,bU,rG,rT,rS];apply T.ret;refine aa.le (Le.norm [9,8] [(4,0),(5,1),(6,2),(3,5)] 0 6 SZ SY yDc yA) ?_;simp[cq,bb,aX,cO,ec,assoc,rG,rT,rS];refine Lj tG tT tS xr (aG dh _) (by simpa using aG nJ s.ts) ?_;simp
   | true=>
    repeat first
     | apply T.seq
     | (apply aM;simp[hC])
     | (refine bg ?_;simp)
     | (refine du ?_;simp)
     | (apply T.skip;simp)
     | apply T.block
    refine cS tlk Xo ?_;simp[hC]
    repeat first
     | apply T.seq
     | (apply aM;simp[hC])
     | (refine bg ?_;simp)
     | (refine du ?_;simp)
     | (apply T.skip;simp)
     | apply T.block
    refine cS tf3 V8 ?_;simp[hC];apply T.ret;refine aa.le (Le.trim [9,8] [3] 99 Vn yA) ?_;simp;apply aa.here;simp
  | true=>
   have SQ:(s.ts.set t (l0++[{ f with pc:=f.pc+1 }])).flatMap ez=(s.ts.take t).flatMap ez++.az (l0.flatMap ed++[I f.proc,I ((f.pc:Int)+1),.az (f.aV.map dg) f.aV.length,.az (f.eD.map λ n:Nat=>I n) f.eD.length]) (l0.length+1)::(s.ts.drop (t+1)).flatMap ez:=by
    rw[set_eq_take_append_cons_drop,if_pos (List.getElem?_eq_some_iff.1 hl).1,flatMap_append,flatMap_cons];simp[ez,ed,ints,aA]
   cases un
   all_goals
    repeat first
     | apply T.seq
     | (apply aM;simp[hC])
     | (refine bg ?_;simp)
     | (refine du ?_;simp)
     | (apply T.skip;simp)
     | apply T.block
    refine cS tlk Xo ?_;simp[hC]
    repeat first
     | apply T.seq
     | (apply aM;simp[hC])
     | (refine bg ?_;simp)
     | (refine du ?_;simp)
     | (apply T.skip;simp)
     | apply T.block
    refine TL.er af [] [] 0 6 (TV) rfl Ts Rg rfl rfl Ta Ta Xe Ta Ta (TL.go' af ?_);simp[hC,bz,bb,aX,cO,bU,rG,rT,rL,rV,r1,r2,ra,aA];refine T.le (Le.norm [15,13,9,8,2] [(4,0),(5,1),(6,2),(7,3),(8,4),(10,5),(3,6)] 0 7 SZ SY Xu yA) ?_;simp[cq,bb,aX,cO,ec,assoc,rG,rT,rL,rV,r1,r2,ra];generalize hA:(s.ts.take t).flatMap ez=A at S9 r1 |-;generalize hB:(s.ts.drop (t+1)).flatMap ez=B at Ti r2 |-;generalize hD:l0.flatMap ed=D at tL rL |-;have SM:=(List.getElem?_eq_some_iff.1 hl).1;have lA:A.length=t:=by rw[<- hA,gh,length_map,length_take];omega
    have lB:B.length=s.ts.length-(t+1):=by rw[<- hB,gh,length_map,length_drop]
    have lD:D.length=l0.length*4:=by rw[<- hD];exact aG en l0
    have WN:=ld s.gs.length W.length s.ts.length t l0.length f.proc f.pc f.aV.length f.eD.length A B D _ _ S9 Ti tL tE tV _ (.inr ⟨W.flatMap dN,rfl⟩) lA lD SM hs.t UI;rw[Tq];apply aq;simp[hC];apply aq;simp[hC];have a1:A.all (aU 5)=true:=by rw[<- aT];exact bF 5 _ S9
    have a2:B.all (aU 5)=true:=by rw[<- aT];exact bF 5 _ Ti
    have a3:D.all (aU 5)=true:=by rw[<- aT];exact bF 5 _ tL
    have dD:∀ r:List CV,(D++r).drop (l0.length*4)=r:=λ r=>by rw[<- lD];simp
    have U7:∀ (r:List CV) (k:Nat),(D++r).drop (l0.length*4+k)=r.drop k:=λ r k=>by rw[<- lD,drop_append];simp
    have V3:∀ (r:List CV) (k:Nat),(D++r).take (l0.length*4+k)=D++r.take k:=λ r k=>by rw[<- lD,take_append,take_of_length_le yA];simp
    have Wd:∀ (r:List CV),(D++r).drop (l0.length*4+1+1)=r.drop 2:=λ r=>U7 r 2;have w3:=cr ((f.pc:Int)+1) yA yA;refine TL.er af [0,1,2,3,4] [2,3,4] 5 0 WN rfl Ts Rg rfl rfl Ts yCb Ts yCa yBv (TL.go' af ?_);simp[hC,bz,bb,aX,cO,bU,rL,rV,r1,r2,ra,w3,lD,U7,V3,Wd];have kF:∀ a b c d:CV,take ((l0.length+1)*4) (D++[a,b,c,d])=D++[a,b,c,d]:=λ a b c d=>take_of_length_le Tv;rw[hA,hB,hD] at SQ;apply aq;simp[hC];apply T.ret;refine aa.le (Le.norm [9,8] [(0,0),(2,2),(3,3),(4,4),(6,5)] 0 6 SZ SY (by simp[cB,mZ,lF,tree,assoc,-all_eq_true,-all_flatMap,au tG,au tL,au tV,au S9,au Ti]) yA) ?_;simp[cq,bb,aX,cO,ec,assoc,rG,rL,rV,r1,r2,ra];refine Dg tG tW S9 Ti tL tE tV rfl xr yA xr ?_;simp[SQ,kF]
 .have Tm:((fa:Int) != 0)=true:=by rw[bne_iff_ne];omega
  repeat first
   | apply T.seq
   | (apply aM;simp[hC,Tm])
   | (refine T.cond (b:=false) ?_ ?_;(first | rfl | (simp[ev,assoc];done));simp)
   | (refine T.cond (b:=true) ?_ ?_;(first | rfl | (simp[ev,assoc,Tm];done));simp)
   | (apply T.skip;simp)
   | apply T.block
  refine cS WM WR ?_;simp[hC];apply T.ret;refine aa.le (Le.trim [9,8] [3] 99 Vn yA) ?_;simp;apply aa.here;simp[hf]
def DM (V:List Int×Nat)(L:List Nat×Nat):CV:=if V.2=0 then (if L.2=0 then .cF [ints V.1,aA L.1,I 0] else .cF [.aj,.aj,I L.2]) else .cF [.aj,.aj,I V.2]
def ha (u:Un)(s:Sy)(ko:Int)(tg:Nat)(es:List Ex)(ps:List Pl):List (Nat×Ob):=
 [(0,⟨30,0,[.az (u.gs.map dg) u.gs.length,.az (u.ms.flatMap cP) u.ms.length,.az (u.ps.flatMap nA) u.ps.length,I u.main]⟩),
  (1,⟨40,0,[.az (s.gs.map dg) s.gs.length,.az (s.tb.flatMap dN) s.tb.length,.az (s.ts.flatMap ez) s.ts.length,I s.fault]⟩),
  (2,⟨90,0,[I ko,I tg,.bool false,I 0,I 0,.str eS,.az [] 0,.bool false,I 0,.az [] 0,.az (es.flatMap bf) es.length,.az (ps.flatMap iq) ps.length]⟩)]
def JA (u:Un)(s:Sy)(t:Int)(f:Fr)(ko:Int)(tg:Nat)(es:List Ex)(ps:List Pl)(n:Nat)(U:St):Prop:=∃ (i:Nat) (G:List Int),n=es.length-i/\i<=es.length/\G.length=i/\
 df s.gs f.aV es=(G++(df s.gs f.aV (es.drop i)).1,(df s.gs f.aV (es.drop i)).2)/\
 U=⟨[(28,I i),(27,I es.length),(26,.az (es.flatMap bf) es.length),(13,.cM (ed f)),(12,.aj),(11,.a7 3 0 i),(7,.ax 2 0),(5,.ax 1 0),(4,.ax 0 0),(2,I t)],(3,⟨3,1,G.map dg⟩)::ha u s ko tg es ps,4⟩
def JAB (u:Un)(s:Sy)(t:Int)(ko:Int)(tg:Nat)(es:List Ex)(ps:List Pl)(G:List Int)(n:Nat)(U:St):Prop:=∃ (k:Nat) (L:List Nat),n=ps.length-k/\k<=ps.length/\L.length=k/\
 dv u s t ps=(L++(dv u s t (ps.drop k)).1,(dv u s t (ps.drop k)).2)/\
 U=⟨[(54,I k),(53,I ps.length),(52,.az (ps.flatMap iq) ps.length),(12,.a7 4 0 k),(11,.a7 3 0 G.length),(7,.ax 2 0),(5,.ax 1 0),(4,.ax 0 0),(2,I t)],(3,⟨3,1,G.map dg⟩)::(4,⟨3,1,L.map λ n:Nat=>I n⟩)::ha u s ko tg es ps,5⟩
theorem Gg (u:Un)(s:Sy)(t:Int)(f:Fr)(go:Bool)(tg:Nat)(es:List Ex)(ps:List Pl)(hm:FI u.ms)(hs:Hj s)(hr:D7 s)(ht:eX s t=some f)
  (he:∀ e∈es,vF s.gs.length f.aV.length e) (SK:es.length<=1000) (hp:∀ p∈ps,p.index<=1000000/\wM u.ms s.gs.length f.aV.length f.eD.length p) (Tx:ps.length<=1000) :
  ae prog 90 [cf u,cU s,I t,.agg (cY (.call go tg es ps))] (DM (df s.gs f.aV es) (dv u s t ps)):=by
 have Wk:=sC s t (sr hs);rw[ht] at Wk;obtain⟨lf,XY,hff⟩:=wW ht;have MY:trees [cU s,I t]=true:=by simp only[trees,tree,cI,Bool.and_self]
 have SH:=bm u;have TK:=cI s;have SJ:tree (DM (df s.gs f.aV es) (dv u s t ps))=true:=by
  unfold DM;split
  .split
   .simp only[tree,trees,de,aE,Bool.and_self]
   .rfl
  .rfl
 refine ae.aD af Tryz.func90 rfl Bw (by simp[Tryz.ntmps90]) SJ λ C hC M0=>?_;rw[Tryz.ntmps90] at hC;clear SJ;simp only[cU,lJ,cf,dk,ints] at *;generalize hKo:(if go=true then (3:Int) else 2)=ko;simp only[cY,bf,oE,cons_append,nil_append];apply aq;simp[hC];apply aq;simp[hC];apply aq;simp[hC];refine cS MY Wk ?_;simp[hC,uk];apply aW;simp[hC];apply T.block;have tes:trees (es.flatMap bf)=true:=ak aO es;have tps:trees (ps.flatMap iq)=true:=ak db ps;have tG:trees (s.gs.map dg)=true:=aP s.gs;have tT:trees (s.tb.flatMap dN)=true:=ak cm _;have tS:trees (s.ts.flatMap ez)=true:=ak b9 _;have tV:trees (f.aV.map dg)=true:=aP f.aV;have tE:=aC f.eD;have YS:trees (u.gs.map dg)=true:=aP u.gs;have YR:=dw u.ms;have cF:trees (u.ps.flatMap nA)=true:=ak fS u.ps;have rs1:=λ ρ=>ah ρ _ tV;have rs2:=λ ρ=>ah ρ _ tE;have rs3:=λ ρ=>ah ρ _ tes;have rs4:=λ ρ=>ah ρ _ tps;have rs5:=λ ρ=>ah ρ _ tG;have rs6:=λ ρ=>ah ρ _ tT;have rs7:=λ ρ=>ah ρ _ tS;have rs8:=λ ρ=>ah ρ _ YS;have rs9:=λ ρ=>ah ρ _ YR;have rs10:=λ ρ=>ah ρ _ cF;refine T.aI (JA u s t f ko tg es ps) (n:=es.length) ?_ ?_
 .refine aa.le (Le.own 11 3 1 rfl) ?_;simp;refine aa.le (Le.norm [28,27,26,13,12,11,7,5,4,2] [(3,3),(0,0),(1,1),(2,2)] 0 4 SZ SY (by simp[cB,mZ,lF,tree,assoc,-all_eq_true,-all_flatMap,ed,ints,aA]) yA) ?_;simp[cq,bb,aX,cO,ec,assoc,ed,ints,aA];refine aa.here ⟨0,[],by omega,by omega,rfl,by simp,?_⟩;simp[ha,hKo,ed,ints,aA]
 .rintro n U ⟨i,G,rfl,hi,hGl,To,rfl⟩;simp only[ha];by_cases Jz:i<es.length
  .obtain⟨e,XK⟩:∃ e,es[i]? = some e:=⟨_,getElem?_eq_getElem Jz⟩;have WZ:=sF s.gs f.aV hr.gs (hr.vs lf XY f hff) e (he e (mem_of_getElem? XK));have X4:=aL (f:=bf) (n:=4) bC XK;have OZ:es.drop i=e::es.drop (i+1):=by rw[drop_eq_getElem_cons Jz];simp[(List.getElem?_eq_some_iff.1 XK).2]
   have wi:=cr ((i:Int)+1) yA yA;have b1:(i+1)*8<=140737488355328:=by omega
   have Tk:trees [.agg (bf e),ints s.gs,ints f.aV]=true:=by simp only[trees,tree,aO,de,Bool.and_self]
   obtain⟨e1,e2,e3,e4,e5,YJ,tec⟩:=gf e;simp only[ints] at WZ Tk;rw[YJ] at WZ Tk X4;rw[OZ] at To;simp only[df] at To;generalize bO s.gs f.aV e=va at WZ To;obtain⟨v,fa⟩:=va;apply aq;simp[hC,Jz];refine T.seq (T.cond (b:=true) rfl (T.skip ?_));simp;apply eE;apply aq;simp[hC,Jz,X4];refine T.seq (T.rx af follows [0,1,2,3,4,5,6,7,8,9,10,11,12] [] Bw ?_);simp[hC,ed,ints];refine RX.call rfl xr rfl rfl rfl Tk WZ ?_;simp;by_cases hf:fa=0
   .subst hf;apply aW;simp[hC];refine gk ?_;simp;apply aM;simp[hC,b1,hGl];apply aM;simp[hC,wi];refine⟨es.length-(i+1),by omega,?_⟩;have tGv:trees (G.map dg++[I v])=true:=by rw[a9,aP];rfl
    have rGv:=λ ρ=>ah ρ _ tGv;refine aa.le (Le.norm [28,27,26,13,12,11,7,5,4,2] [(19,3),(0,0),(1,1),(2,2)] 0 4 SZ SY (by simp[cB,mZ,lF,tree,assoc,-all_eq_true,-all_flatMap,au tGv,aA]) yA) ?_;simp[cq,bb,aX,cO,ec,assoc,rGv,aA];refine aa.here ⟨i+1,G++[v],rfl,by omega,by simp[hGl],?_,?_⟩
    .rw[To];simp
    .simp[ha,ed,ints,aA]
   .have Tm:((fa:Int) != 0)=true:=by rw[bne_iff_ne];omega
    apply aW;simp[hC,Tm];refine du ?_;simp;apply aq;simp[hC];apply T.ret;simp only[if_neg hf,append_nil] at To;apply aa.here;simp[Tryz.results90,DM,To,hf]
  .have Rz:i=es.length:=by omega
   subst Rz;apply aq;simp[hC];refine T.seq (T.cond (b:=false) rfl (T.exit ?_));simp;rw[drop_length,df,append_nil] at To;apply aW;simp[hC];apply T.block;have tGG:trees (G.map dg)=true:=aP G;have rs0:=λ ρ=>ah ρ _ tGG;refine T.aI (JAB u s t ko tg es ps G) (n:=ps.length) ?_ ?_
   .refine aa.le (Le.own 12 3 1 rfl) ?_;simp;refine aa.le (Le.norm [54,53,52,12,11,7,5,4,2] [(3,3),(4,4),(0,0),(1,1),(2,2)] 0 5 SZ SY (by simp[cB,mZ,lF,tree,assoc,-all_eq_true,-all_flatMap,au tGG]) yA) ?_;simp[cq,bb,aX,cO,ec,assoc,rs0];refine aa.here ⟨0,[],by omega,by omega,rfl,by simp,?_⟩;simp[ha,hGl]
   .rintro n U ⟨k,L,rfl,hk,X5,UK,rfl⟩;simp only[ha];by_cases SO:k<ps.length
    .obtain⟨p,V5⟩:∃ p,ps[k]? = some p:=⟨_,getElem?_eq_getElem SO⟩;obtain⟨Yp,UC⟩:=hp p (mem_of_getElem? V5);have WZ:=Cq u s t p hm hr (sr hs) Yp f ht UC;have X4:=aL (f:=iq) (n:=3) lR V5;have OZ:ps.drop k=p::ps.drop (k+1):=by rw[drop_eq_getElem_cons SO];simp[(List.getElem?_eq_some_iff.1 V5).2]
     have wi:=cr ((k:Int)+1) yA yA;have b1:(k+1)*8<=140737488355328:=by omega
     obtain⟨n0,Vt⟩:=kB u s t p hm f ht UC;have Tk:trees [cf u,cU s,I t,.agg (iq p)]=true:=by
      have:=bm u;simp only[trees,tree,db,cI,cf,this,Bool.and_self]
     rw[OZ] at UK;simp only[dv] at UK;generalize bV u s t p=va at WZ UK Vt;obtain⟨v,fa⟩:=va;simp only at Vt;subst Vt;obtain⟨p1,p2,p3,p4,gQ,tpc⟩:=pb p;rw[gQ] at WZ Tk X4;simp only[cf,dk,cU,lJ,ints] at WZ Tk;apply aq;simp[hC,SO];refine T.seq (T.cond (b:=true) rfl (T.skip ?_));simp;apply eE;apply aq;simp[hC,SO,X4];apply aq;simp[hC];refine cS Tk WZ ?_;simp[hC];by_cases hf:fa=0
     .subst hf;apply aW;simp[hC];refine gk ?_;simp;apply aM;simp[hC,b1,X5];apply aM;simp[hC,wi];refine⟨ps.length-(k+1),by omega,?_⟩;have tLv:trees ((L.map λ n:Nat=>I n)++[I n0])=true:=by rw[a9,aC];rfl
      have rLv:=λ ρ=>ah ρ _ tLv;refine aa.le (Le.norm [54,53,52,12,11,7,5,4,2] [(3,3),(7,4),(0,0),(1,1),(2,2)] 0 5 SZ SY yDt yA) ?_;simp[cq,bb,aX,cO,ec,assoc,rLv,rs0];refine aa.here ⟨k+1,L++[n0],rfl,by omega,by simp[X5],?_,?_⟩
      .rw[UK];simp
      .simp[ha]
     .have Tm:((fa:Int) != 0)=true:=by rw[bne_iff_ne];omega
      apply aW;simp[hC,Tm];refine du ?_;simp;apply aq;simp[hC];apply T.ret;simp only[if_neg hf,append_nil] at UK;apply aa.here;simp[Tryz.results90,DM,To,UK,hf]
    .have Y0:k=ps.length:=by omega
     subst Y0;rw[drop_length,dv,append_nil] at UK;have tLL:=aC L;have kG:take G.length (G.map dg)=G.map dg:=take_of_length_le xr;have kL:take ps.length (L.map λ n:Nat=>I n)=L.map λ n:Nat=>I n:=take_of_length_le (by simp[X5]);apply aq;simp[hC];refine T.seq (T.cond (b:=false) rfl (T.exit ?_));simp;apply aq;simp[hC];apply T.ret;refine aa.le (Le.trim [10,9,8] [3,4] 99 (by simp[-all_eq_true,-all_map,ai tGG,ai tLL]) yA) ?_;simp;refine aa.le (Le.di (o:=3) rfl tGG) ?_;simp[cC,kG,aN tLL];refine aa.le (Le.di (o:=4) rfl tLL) ?_;simp[cC,kL];apply aa.here;simp[DM,To,UK,ints,aA,X5,hGl]
theorem uQ (u:Un)(s:Sy)(t:Int):∀ ps:List Pl,(dv u s t ps).1.length<=ps.length
 | []=>by simp[dv]
 | p::r=>by
  have:=uQ u s t r;rw[dv];split
  .simpa using this
  .simp
def So (u:Un)(s:Sy)(t:Nat)(l0:List Fr)(f:Fr)(go:Bool)(tg n:Nat)(es:List Ex)(ps:List Pl):Sy:=if go=true then O8 u s t l0 f tg n es ps else Po u s t l0 f tg n es ps
theorem Kf (u:Un)(s:Sy)(t:Nat)(l0:List Fr)(f:Fr)(go:Bool)(tg:Nat)(es:List Ex)(ps:List Pl)(qq:Pr)(hm:FI u.ms)(Wq:u.ps[tg]? = some qq)(he:∀ e∈es,vF s.gs.length f.aV.length e)(SK:es.length<=1000)(hp:∀ p∈ps,p.index<=1000000/\wM u.ms s.gs.length f.aV.length f.eD.length p)(Tx:ps.length<=1000)(hq1:es.length<=qq.locals)(hq2:qq.locals<=1000000)
  (hl:s.ts[t]? = some (l0++[f])) (Tq:s.fault=0) (hs:Hj s) (hr:D7 s) (h6:f.pc<=1000000) (X2:go=false) :
  ae prog 42 [cf u,cU s,I t,.agg (cY (.call go tg es ps))] (.cF [cU (So u s t l0 f go tg qq.locals es ps),.bool true]):=by
 have Va:eX s t=some f:=by simp[eX,hl,Tq]
 have VA:=mem_of_getElem? hl;have TY:=(hs.f _ VA).1;have UI:l0.length<=1000000:=by simp at TY;omega
 have TV:=rz s t l0 f hl hs;have YO:=Gg u s t f go tg es ps hm hs hr Va he SK hp Tx;have TK:=cI s;have SH:=bm u;have tar:trees [cf u,cU s,I t,.agg (cY (.call go tg es ps))]=true:=by simp only[trees,tree,eB,TK,cf,SH,Bool.and_self]
 have SJ:tree (.cF [cU (So u s t l0 f go tg qq.locals es ps),.bool true])=true:=by simp only[tree,trees,cI,Bool.and_self]
 have ZI:=nZ s.gs f.aV es;have X5:=uQ u s t ps;have WR:∀ fa:Nat,ae prog 91 [cU s,I fa] (.cF [cU ⟨s.gs,s.tb,s.ts,fa⟩,.bool true]):=jA s hs;have WM:∀ fa:Nat,trees [cU s,I fa]=true:=λ fa=>by simp only[trees,tree,TK,Bool.and_self]
 refine ae.aD af Tryz.func42 rfl Bw (by simp[Tryz.ntmps42]) SJ λ C hC M0=>?_;rw[Tryz.ntmps42] at hC;clear SJ;have hac:ny u s t f tg qq.locals es ps=if (df s.gs f.aV es).2=0 then
  (if (dv u s t ps).2=0 then (⟨tg,0,(df s.gs f.aV es).1++replicate (qq.locals-es.length) 0,(dv u s t ps).1⟩,0)
   else (⟨tg,0,(df s.gs f.aV es).1,(dv u s t ps).1⟩,(dv u s t ps).2))
  else (⟨tg,0,(df s.gs f.aV es).1,[]⟩,(df s.gs f.aV es).2):=rfl
 simp only[So,O8,Po];rw[hac];generalize df s.gs f.aV es=va at YO ZI |-;obtain⟨V,f1⟩:=va;generalize dv u s t ps=vb at YO X5 |-;obtain⟨L,f2⟩:=vb;have tG:trees (s.gs.map dg)=true:=aP s.gs;have tT:trees (s.tb.flatMap dN)=true:=ak cm _;have tL:trees (l0.flatMap ed)=true:=ak dc _;have tV:trees (f.aV.map dg)=true:=aP f.aV;have tE:=aC f.eD;have S9:trees ((s.ts.take t).flatMap ez)=true:=ak b9 _;have Ti:trees ((s.ts.drop (t+1)).flatMap ez)=true:=ak b9 _;have rG:=λ ρ=>ah ρ _ tG;have rT:=λ ρ=>ah ρ _ tT;have rL:=λ ρ=>ah ρ _ tL;have rV:=λ ρ=>ah ρ _ tV;have r1:=λ ρ=>ah ρ _ S9;have r2:=λ ρ=>ah ρ _ Ti;have rE:=λ ρ=>ah ρ _ tE;have ra:∀ ρ (a b:List CV),aX ρ (a++b)=aX ρ a++aX ρ b:=λ ρ a b=>by rw[cd,cd,cd,map_append]
 have tes:trees (es.flatMap bf)=true:=ak aO es;have tps:trees (ps.flatMap iq)=true:=ak db ps;have YS:trees (u.gs.map dg)=true:=aP u.gs;have YR:=dw u.ms;have cF:trees (u.ps.flatMap nA)=true:=ak fS u.ps;have re:=λ ρ=>ah ρ _ tes;have rp2:=λ ρ=>ah ρ _ tps;have rg:=λ ρ=>ah ρ _ YS;have rm:=λ ρ=>ah ρ _ YR;have rp:=λ ρ=>ah ρ _ cF;have tLL:=aC L;have rLL:=λ ρ=>ah ρ _ tLL;have tVV:trees (V.map dg)=true:=aP V;have rVV:=λ ρ=>ah ρ _ tVV;simp only[cU,lJ,cf,dk,cY,bf,oE,cons_append,nil_append,Mq,DM,ints,aA] at YO tar TV WR WM |-;apply aq;simp[hC];apply aq;simp[hC];refine cS tar YO ?_;by_cases h1:f1=0
 .by_cases h2:f2=0
  .subst h1 h2;have ZI:V.length=es.length:=ZI rfl;have X5:L.length<=ps.length:=X5;simp[hC];have Up:=uC u tg qq Wq hq2 V yA L yA (ints V) (aA L) (.inl rfl) (.inl rfl);rw[show (V++replicate (qq.locals-V.length) 0)=V++replicate (qq.locals-es.length) 0 by rw[ZI]] at Up;have tfr:trees [cf u,I tg,ints V,aA L]=true:=by simp only[trees,tree,de,aE,cf,bm u,Bool.and_self]
   simp only[cf,dk,ints,aA,ed] at Up tfr
   cases go with
   | false=>
    repeat first
     | apply T.seq
     | (apply aM;simp[hC])
     | (refine bg ?_;simp)
     | (refine du ?_;simp)
     | (apply T.skip;simp)
     | apply T.block
    refine TL.er af [] [] 0 6 (TV) rfl Ts Rg rfl rfl Ta Ta Xe Ta Ta (TL.go' af ?_);simp[hC,bz,bb,aX,cO,bU,rG,rT,rL,rV,r1,r2,ra];refine T.le (Le.norm [13,11,10,9,8,7,4,2] [(4,0),(5,1),(6,2),(7,3),(8,4),(10,5),(3,6),(2,7),(0,8)] 0 9 SZ SY Xu yA) ?_;simp[cq,bb,aX,cO,ec,assoc,rG,rT,rL,rV,r1,r2,ra];generalize hA:(s.ts.take t).flatMap ez=A at S9 r1 |-;generalize hB:(s.ts.drop (t+1)).flatMap ez=B at Ti r2 |-;generalize hD:l0.flatMap ed=D at tL rL |-;have SM:=(List.getElem?_eq_some_iff.1 hl).1;have lA:A.length=t:=by rw[<- hA,gh,length_map,length_take];omega
    have lB:B.length=s.ts.length-(t+1):=by rw[<- hB,gh,length_map,length_drop]
    have lD:D.length=l0.length*4:=by rw[<- hD];exact aG en l0
    have WN:=ld s.gs.length s.tb.length s.ts.length t l0.length f.proc f.pc f.aV.length f.eD.length A B D _ _ S9 Ti tL tE tV _ (.inl rfl) lA lD SM hs.t UI;rw[Tq];apply aq;simp[hC];have a1:A.all (aU 5)=true:=by rw[<- aT];exact bF 5 _ S9
    have a2:B.all (aU 5)=true:=by rw[<- aT];exact bF 5 _ Ti
    have a3:D.all (aU 5)=true:=by rw[<- aT];exact bF 5 _ tL
    have dD:∀ r:List CV,(D++r).drop (l0.length*4)=r:=λ r=>by rw[<- lD];simp
    have U7:∀ (r:List CV) (k:Nat),(D++r).drop (l0.length*4+k)=r.drop k:=λ r k=>by rw[<- lD,drop_append];simp
    have V3:∀ (r:List CV) (k:Nat),(D++r).take (l0.length*4+k)=D++r.take k:=λ r k=>by rw[<- lD,take_append,take_of_length_le yA];simp
    have Wd:∀ (r:List CV),(D++r).drop (l0.length*4+1+1)=r.drop 2:=λ r=>U7 r 2;have w3:=cr ((f.pc:Int)+1) yA yA;refine TL.er af [0,1,2,3,4] [2,3,4] 5 0 WN rfl Ts Rg rfl rfl Ts yCb Ts yCa yBv (TL.go' af ?_);simp[hC,bz,bb,aX,cO,bU,rL,rV,r1,r2,ra,w3,lD,U7,V3,Wd];apply aq;simp[hC];refine cS tfr Up ?_;simp[hC];have tZ:trees (V.map dg++replicate (qq.locals-es.length) (dg 0))=true:=by rw[a9,aP];exact jt _
    generalize hZ:V.map dg++replicate (qq.locals-es.length) (dg 0)=Z at tZ |-;have rZ:=λ ρ=>ah ρ _ tZ;have b2:l0.length*4+4=(l0.length+1)*4:=by omega
    have b1:(l0.length+1+1)*64<=140737488355328:=by omega
    have dA:∀ r:List CV,(A++r).drop t=r:=λ r=>by rw[<- lA];simp
    have dA1:∀ (x:CV) (r:List CV),(A++x::r).drop (t+1)=r:=λ x r=>by rw[<- lA,drop_append];simp
    repeat first
     | apply T.seq
     | (apply aM;simp[hC])
     | (refine T.cond (b:=false) ?_ ?_;(first | rfl | (simp[ev,assoc,lD];done));simp)
     | (refine T.cond (b:=true) ?_ ?_;(first | rfl | (simp[ev,assoc,lD];done));simp)
     | (apply T.skip;simp)
     | apply T.block
    refine T.rx af follows [0,1,2,3,4,5,6,7,8,9,10,11,12,13,14] [(1,10),(1,11),(4,10),(8,10)] Bw ?_;simp[hC,lD,lA,dA,dA1,SM,b1,b2,aY];apply aq;simp[hC];apply T.ret;refine aa.le (Le.norm [9,8] [(0,0),(1,1),(2,2),(25,3),(4,4),(6,5)] 0 6 SZ SY Xu yA) ?_;simp[cq,bb,aX,cO,ec,assoc,rG,rT,rL,rV,r1,r2,ra];have kF:∀ a b c d a' b' c' d':CV,take ((l0.length+1+1)*4) (D++[a,b,c,d,a',b',c',d'])=D++[a,b,c,d,a',b',c',d']:=λ a b c d a' b' c' d'=>take_of_length_le Tv;have SQ:(s.ts.set t (l0++[{ f with pc:=f.pc+1 },⟨tg,0,V++replicate (qq.locals-es.length) 0,L⟩])).flatMap ez=A++.az (D++[I f.proc,I ((f.pc:Int)+1),.az (f.aV.map dg) f.aV.length,.az (f.eD.map λ n:Nat=>I n) f.eD.length,I tg,I 0,.az Z (V.length+(qq.locals-es.length)),.az (L.map λ n:Nat=>I n) L.length]) (l0.length+1+1)::B:=by
     rw[set_eq_take_append_cons_drop,if_pos SM,flatMap_append,flatMap_cons,hA,hB];simp[ez,ed,hD,ints,aA,<- hZ]
    refine lY tG tT S9 Ti tL tE tV (by simp only[trees,tree,Bool.and_self]) xr (aG dh _) yA xr ?_;simp[SQ,kF]
   | true=>cases X2
  .have Tm:((f2:Int) == 0)=false:=by rw[beq_eq_false_iff_ne];omega
   have V8:((f2:Int) != 0)=true:=by rw[bne_iff_ne];omega
   subst h1;simp[hC,h2]
   repeat first
    | apply T.seq
    | (apply aM;simp[hC,Tm,V8])
    | (refine T.cond (b:=false) ?_ ?_;(first | rfl | (simp[ev,assoc];done));simp)
    | (refine T.cond (b:=true) ?_ ?_;(first | rfl | (simp[ev,assoc,h2,Tm,V8];done));simp)
    | (apply T.skip;simp)
    | apply T.block
   refine cS (WM f2) (WR f2) ?_;simp[hC];apply T.ret;refine aa.le (Le.trim [9,8] [3] 99 Vn yA) ?_;simp;apply aa.here;cases go<;>simp
 .have Tm:((f1:Int) == 0)=false:=by rw[beq_eq_false_iff_ne];omega
  have V8:((f1:Int) != 0)=true:=by rw[bne_iff_ne];omega
  simp[hC,h1]
  repeat first
   | apply T.seq
   | (apply aM;simp[hC,Tm,V8])
   | (refine T.cond (b:=false) ?_ ?_;(first | rfl | (simp[ev,assoc];done));simp)
   | (refine T.cond (b:=true) ?_ ?_;(first | rfl | (simp[ev,assoc,h1,Tm,V8];done));simp)
   | (apply T.skip;simp)
   | apply T.block
  refine cS (WM f1) (WR f1) ?_;simp[hC];apply T.ret;refine aa.le (Le.trim [9,8] [3] 99 Vn yA) ?_;simp;apply aa.here;cases go<;>simp
theorem go24 (n:Nat)(h:¬ 32<=n):(n+1)*24<=140737488355328:=by omega
theorem go8 (n:Nat)(h:¬ 32<=n):(n+1)*8<=140737488355328:=by omega
theorem goAB {a b n t:Nat}(h1:a=t)(h2:b=n-(t+1))(h3:t<n):a+(b+1)=n:=by omega
theorem Ql (u:Un)(s:Sy)(t:Nat)(l0:List Fr)(f:Fr)(go:Bool)(tg:Nat)(es:List Ex)(ps:List Pl)(qq:Pr)(hm:FI u.ms)(Wq:u.ps[tg]? = some qq)(he:∀ e∈es,vF s.gs.length f.aV.length e)(SK:es.length<=1000)(hp:∀ p∈ps,p.index<=1000000/\wM u.ms s.gs.length f.aV.length f.eD.length p)(Tx:ps.length<=1000)(hq1:es.length<=qq.locals)(hq2:qq.locals<=1000000)
  (hl:s.ts[t]? = some (l0++[f])) (Tq:s.fault=0) (hs:Hj s) (hr:D7 s) (h6:f.pc<=1000000) (X2:go=true) :
  ae prog 42 [cf u,cU s,I t,.agg (cY (.call go tg es ps))] (.cF [cU (So u s t l0 f go tg qq.locals es ps),.bool true]):=by
 have Va:eX s t=some f:=by simp[eX,hl,Tq]
 have VA:=mem_of_getElem? hl;have TY:=(hs.f _ VA).1;have UI:l0.length<=1000000:=by simp at TY;omega
 have TV:=rz s t l0 f hl hs;have YO:=Gg u s t f go tg es ps hm hs hr Va he SK hp Tx;have TK:=cI s;have SH:=bm u;have tar:trees [cf u,cU s,I t,.agg (cY (.call go tg es ps))]=true:=by simp only[trees,tree,eB,TK,cf,SH,Bool.and_self]
 have SJ:tree (.cF [cU (So u s t l0 f go tg qq.locals es ps),.bool true])=true:=by simp only[tree,trees,cI,Bool.and_self]
 have ZI:=nZ s.gs f.aV es;have X5:=uQ u s t ps;have WR:∀ fa:Nat,ae prog 91 [cU s,I fa] (.cF [cU ⟨s.gs,s.tb,s.ts,fa⟩,.bool true]):=jA s hs;have WM:∀ fa:Nat,trees [cU s,I fa]=true:=λ fa=>by simp only[trees,tree,TK,Bool.and_self]
 refine ae.aD af Tryz.func42 rfl Bw (by simp[Tryz.ntmps42]) SJ λ C hC M0=>?_;rw[Tryz.ntmps42] at hC;clear SJ;have hac:ny u s t f tg qq.locals es ps=if (df s.gs f.aV es).2=0 then
  (if (dv u s t ps).2=0 then (⟨tg,0,(df s.gs f.aV es).1++replicate (qq.locals-es.length) 0,(dv u s t ps).1⟩,0)
   else (⟨tg,0,(df s.gs f.aV es).1,(dv u s t ps).1⟩,(dv u s t ps).2))
  else (⟨tg,0,(df s.gs f.aV es).1,[]⟩,(df s.gs f.aV es).2):=rfl
 simp only[So,O8,Po];rw[hac];generalize df s.gs f.aV es=va at YO ZI |-;obtain⟨V,f1⟩:=va;generalize dv u s t ps=vb at YO X5 |-;obtain⟨L,f2⟩:=vb;have tG:trees (s.gs.map dg)=true:=aP s.gs;have tT:trees (s.tb.flatMap dN)=true:=ak cm _;have tL:trees (l0.flatMap ed)=true:=ak dc _;have tV:trees (f.aV.map dg)=true:=aP f.aV;have tE:=aC f.eD;have S9:trees ((s.ts.take t).flatMap ez)=true:=ak b9 _;have Ti:trees ((s.ts.drop (t+1)).flatMap ez)=true:=ak b9 _;have rG:=λ ρ=>ah ρ _ tG;have rT:=λ ρ=>ah ρ _ tT;have rL:=λ ρ=>ah ρ _ tL;have rV:=λ ρ=>ah ρ _ tV;have r1:=λ ρ=>ah ρ _ S9;have r2:=λ ρ=>ah ρ _ Ti;have rE:=λ ρ=>ah ρ _ tE;have ra:∀ ρ (a b:List CV),aX ρ (a++b)=aX ρ a++aX ρ b:=λ ρ a b=>by rw[cd,cd,cd,map_append]
 have tes:trees (es.flatMap bf)=true:=ak aO es;have tps:trees (ps.flatMap iq)=true:=ak db ps;have YS:trees (u.gs.map dg)=true:=aP u.gs;have YR:=dw u.ms;have cF:trees (u.ps.flatMap nA)=true:=ak fS u.ps;have re:=λ ρ=>ah ρ _ tes;have rp2:=λ ρ=>ah ρ _ tps;have rg:=λ ρ=>ah ρ _ YS;have rm:=λ ρ=>ah ρ _ YR;have rp:=λ ρ=>ah ρ _ cF;have tLL:=aC L;have rLL:=λ ρ=>ah ρ _ tLL;have tVV:trees (V.map dg)=true:=aP V;have rVV:=λ ρ=>ah ρ _ tVV;simp only[cU,lJ,cf,dk,cY,bf,oE,cons_append,nil_append,Mq,DM,ints,aA] at YO tar TV WR WM |-;apply aq;simp[hC];apply aq;simp[hC];refine cS tar YO ?_;by_cases h1:f1=0
 .by_cases h2:f2=0
  .subst h1 h2;have ZI:V.length=es.length:=ZI rfl;have X5:L.length<=ps.length:=X5;simp[hC];have Up:=uC u tg qq Wq hq2 V yA L yA (ints V) (aA L) (.inl rfl) (.inl rfl);rw[show (V++replicate (qq.locals-V.length) 0)=V++replicate (qq.locals-es.length) 0 by rw[ZI]] at Up;have tfr:trees [cf u,I tg,ints V,aA L]=true:=by simp only[trees,tree,de,aE,cf,bm u,Bool.and_self]
   simp only[cf,dk,ints,aA,ed] at Up tfr
   cases go with
   | false=>cases X2
   | true=>
    by_cases h32:32<=s.ts.length
    .have XP:(32:Int)<=(s.ts.length:Int):=by omega
     repeat first
      | apply T.seq
      | (apply aM;simp[hC,XP])
      | (refine T.cond (b:=false) ?_ ?_;(first | rfl | (simp[ev,assoc];done));simp)
      | (refine T.cond (b:=true) ?_ ?_;(first | rfl | (simp[ev,assoc,XP];done));simp)
      | (apply T.skip;simp)
      | apply T.block
     refine cS (WM 4) (WR 4) ?_;simp[hC];apply T.ret;refine aa.le (Le.trim [9,8] [3] 99 Vn yA) ?_;simp;apply aa.here;simp[h32]
    .have XP:¬ (32:Int)<=(s.ts.length:Int):=by omega
     simp only[if_neg h32]
     repeat first
      | apply T.seq
      | (apply aM;simp[hC,XP])
      | (refine T.cond (b:=false) ?_ ?_;(first | rfl | (simp[ev,assoc,XP];done));simp)
      | (refine T.cond (b:=true) ?_ ?_;(first | rfl | (simp[ev,assoc,XP];done));simp)
      | (apply T.skip;simp)
      | apply T.block
     refine TL.er af [] [] 0 6 (TV) rfl Ts Rg rfl rfl Ta Ta Xe Ta Ta (TL.go' af ?_);simp[hC,bz,bb,aX,cO,bU,rG,rT,rL,rV,r1,r2,ra];refine T.le (Le.norm [13,11,10,9,8,7,4,2] [(4,0),(5,1),(6,2),(7,3),(8,4),(10,5),(3,6),(2,7),(0,8)] 0 9 SZ SY Xu yA) ?_;simp[cq,bb,aX,cO,ec,assoc,rG,rT,rL,rV,r1,r2,ra];generalize hA:(s.ts.take t).flatMap ez=A at S9 r1 |-;generalize hB:(s.ts.drop (t+1)).flatMap ez=B at Ti r2 |-;generalize hD:l0.flatMap ed=D at tL rL |-;have SM:=(List.getElem?_eq_some_iff.1 hl).1;have lA:A.length=t:=by rw[<- hA,gh,length_map,length_take];omega
     have lB:B.length=s.ts.length-(t+1):=by rw[<- hB,gh,length_map,length_drop]
     have lD:D.length=l0.length*4:=by rw[<- hD];exact aG en l0
     have WN:=ld s.gs.length s.tb.length s.ts.length t l0.length f.proc f.pc f.aV.length f.eD.length A B D _ _ S9 Ti tL tE tV _ (.inl rfl) lA lD SM hs.t UI;rw[Tq];apply aq;simp[hC];have a1:A.all (aU 5)=true:=by rw[<- aT];exact bF 5 _ S9
     have a2:B.all (aU 5)=true:=by rw[<- aT];exact bF 5 _ Ti
     have a3:D.all (aU 5)=true:=by rw[<- aT];exact bF 5 _ tL
     have dD:∀ r:List CV,(D++r).drop (l0.length*4)=r:=λ r=>by rw[<- lD];simp
     have U7:∀ (r:List CV) (k:Nat),(D++r).drop (l0.length*4+k)=r.drop k:=λ r k=>by rw[<- lD,drop_append];simp
     have V3:∀ (r:List CV) (k:Nat),(D++r).take (l0.length*4+k)=D++r.take k:=λ r k=>by rw[<- lD,take_append,take_of_length_le yA];simp
     have Wd:∀ (r:List CV),(D++r).drop (l0.length*4+1+1)=r.drop 2:=λ r=>U7 r 2;have w3:=cr ((f.pc:Int)+1) yA yA;refine TL.er af [0,1,2,3,4] [2,3,4] 5 0 WN rfl Ts Rg rfl rfl Ts yCb Ts yCa yBv (TL.go' af ?_);simp[hC,bz,bb,aX,cO,bU,rL,rV,r1,r2,ra,w3,lD,U7,V3,Wd];apply aq;simp[hC];refine cS tfr Up ?_;simp[hC];have tZ:trees (V.map dg++replicate (qq.locals-es.length) (dg 0))=true:=by rw[a9,aP];exact jt _
     generalize hZ:V.map dg++replicate (qq.locals-es.length) (dg 0)=Z at tZ |-;have rZ:=λ ρ=>ah ρ _ tZ;have b2:l0.length*4+4=(l0.length+1)*4:=by omega
     have b1:(l0.length+1+1)*64<=140737488355328:=by omega
     have dA:∀ r:List CV,(A++r).drop t=r:=λ r=>by rw[<- lA];simp
     have dA1:∀ (x:CV) (r:List CV),(A++x::r).drop (t+1)=r:=λ x r=>by rw[<- lA,drop_append];simp
     have b3:=go24 _ h32;have b4:=go8 _ h32;have lAB:A.length+(B.length+1)=s.ts.length:=goAB lA lB SM
     repeat first
      | apply T.seq
      | (apply aM;simp[hC,b3,lAB,aY])
      | (refine T.cond (b:=false) ?_ ?_;(first | rfl | (simp[ev,assoc];done));simp)
      | (refine T.cond (b:=true) ?_ ?_;(first | rfl | (simp[ev,assoc,lD,b3,b4,lAB,aY];done));simp)
      | (apply T.skip;simp)
      | apply T.block
     apply T.ret;refine aa.le (Le.norm [9,8] [(0,0),(1,1),(12,2),(3,3),(4,4),(6,5),(10,6)] 0 7 SZ SY Xu yA) ?_;simp[cq,bb,aX,cO,ec,assoc,rG,rT,rL,rV,r1,r2,ra];have tX:trees [I tg,I 0,.az Z (V.length+(qq.locals-es.length)),.az (L.map λ n:Nat=>I n) L.length]=true:=by simp only[trees,tree,Bool.and_self]
     refine aa.le (Le.di (o:=6) rfl tX) ?_;simp[aN tG,aN tT,aN tL,aN tV,aN S9,aN Ti];have kF:∀ a b c d:CV,take ((l0.length+1)*4) (D++[a,b,c,d])=D++[a,b,c,d]:=λ a b c d=>take_of_length_le Tv;have SQ:(s.ts.set t (l0++[{ f with pc:=f.pc+1 }])++[[(⟨tg,0,V++replicate (qq.locals-es.length) 0,L⟩:Fr)]]).flatMap ez=A++.az (D++[I f.proc,I ((f.pc:Int)+1),.az (f.aV.map dg) f.aV.length,.az (f.eD.map λ n:Nat=>I n) f.eD.length]) (l0.length+1)::(B++[.az [I tg,I 0,.az Z (V.length+(qq.locals-es.length)),.az (L.map λ n:Nat=>I n) L.length] 1]):=by
      rw[flatMap_append,set_eq_take_append_cons_drop,if_pos SM,flatMap_append,flatMap_cons,hA,hB];simp[ez,ed,hD,ints,aA,<- hZ]
     refine lY tG tT S9 ?_ tL tE tV ?_ ?_ ?_ ?_ ?_ ?_
     .rw[a9,Ti];simp only[trees,tree,Bool.and_self]
     .rfl
     .simp
     .exact aG dh _
     .rw[length_append,length_singleton];omega
     .simp
     simp only[flatMap_append,flatMap_cons,flatMap_nil,append_nil] at SQ;simp[kF];exact SQ.symm
  .have Tm:((f2:Int) == 0)=false:=by rw[beq_eq_false_iff_ne];omega
   have V8:((f2:Int) != 0)=true:=by rw[bne_iff_ne];omega
   subst h1;simp[hC,h2]
   repeat first
    | apply T.seq
    | (apply aM;simp[hC,Tm,V8])
    | (refine T.cond (b:=false) ?_ ?_;(first | rfl | (simp[ev,assoc];done));simp)
    | (refine T.cond (b:=true) ?_ ?_;(first | rfl | (simp[ev,assoc,h2,Tm,V8];done));simp)
    | (apply T.skip;simp)
    | apply T.block
   refine cS (WM f2) (WR f2) ?_;simp[hC];apply T.ret;refine aa.le (Le.trim [9,8] [3] 99 Vn yA) ?_;simp;apply aa.here;cases go<;>simp
 .have Tm:((f1:Int) == 0)=false:=by rw[beq_eq_false_iff_ne];omega
  have V8:((f1:Int) != 0)=true:=by rw[bne_iff_ne];omega
  simp[hC,h1]
  repeat first
   | apply T.seq
   | (apply aM;simp[hC,Tm,V8])
   | (refine T.cond (b:=false) ?_ ?_;(first | rfl | (simp[ev,assoc];done));simp)
   | (refine T.cond (b:=true) ?_ ?_;(first | rfl | (simp[ev,assoc,h1,Tm,V8];done));simp)
   | (apply T.skip;simp)
   | apply T.block
  refine cS (WM f1) (WR f1) ?_;simp[hC];apply T.ret;refine aa.le (Le.trim [9,8] [3] 99 Vn yA) ?_;simp;apply aa.here;cases go<;>simp
theorem Cj (u:Un)(s s':Sy)(t:Int)(b:Bool)(i:In)(K a e1 e2 p2:Int)(g p1:Bool)(e3:ByteArray)(e4 p3 q1 q3:List CV)(e5 p4 q2 q4:Nat)(hiC:cY i=[I K,I a,.bool g,I e1,I e2,.str e3,.az e4 e5,.bool p1,I p2,.az p3 p4,.az q1 q2,.az q3 q4])(hK:K=1\/K=6)
  (SF:ae prog 33 [cf u,cU s,I t] (mY (some i))) (hR:ae prog 44 [cU s,I t,.agg (cY i)] (.cF [cU s',.bool b])) :
  ae prog 14 [cf u,cU s,I t] (.cF [cU s',.bool b]):=by
 have SH:=bm u;have TK:=cI s;have MY:trees [cf u,cU s,I t]=true:=by simp only[trees,tree,TK,cf,SH,Bool.and_self]
 have tR:trees [cU s,I t,.agg (cY i)]=true:=by simp only[trees,tree,TK,eB,Bool.and_self]
 have SJ:tree (.cF [cU s',.bool b])=true:=by simp only[tree,trees,cI,Bool.and_self]
 refine ae.aD af Tryz.func14 rfl Bw yCi SJ λ C hC M0=>?_;rw[Tryz.ntmps14] at hC;clear SJ;simp only[mY,hiC,cU,lJ,cf,dk,ints] at SF hR MY tR |-;rcases hK with rfl | rfl
 all_goals
  apply aq;simp[hC];apply aq;simp[hC];refine cS MY SF ?_;simp[hC]
  repeat first
   | apply T.seq
   | (apply aM;simp[hC])
   | (refine bg ?_;simp)
   | (refine du ?_;simp)
   | (apply T.skip;simp)
   | apply T.block
  refine cS tR hR ?_;simp[hC];apply T.ret;refine aa.le (Le.trim [7,6] [2] 99 Vn yA) ?_;simp;apply aa.here;simp
theorem Ci (u:Un)(s s':Sy)(t:Int)(b:Bool)(i:In)(K a e1 e2 p2:Int)(g p1:Bool)(e3:ByteArray)(e4 p3 q1 q3:List CV)(e5 p4 q2 q4:Nat)(hiC:cY i=[I K,I a,.bool g,I e1,I e2,.str e3,.az e4 e5,.bool p1,I p2,.az p3 p4,.az q1 q2,.az q3 q4])(hK:K=4\/K=5)
  (SF:ae prog 33 [cf u,cU s,I t] (mY (some i))) (hR:ae prog 43 [cf u,cU s,I t,.agg (cY i)] (.cF [cU s',.bool b])) :
  ae prog 14 [cf u,cU s,I t] (.cF [cU s',.bool b]):=by
 have SH:=bm u;have TK:=cI s;have MY:trees [cf u,cU s,I t]=true:=by simp only[trees,tree,TK,cf,SH,Bool.and_self]
 have tR:trees [cf u,cU s,I t,.agg (cY i)]=true:=by simp only[trees,tree,TK,eB,cf,SH,Bool.and_self]
 have SJ:tree (.cF [cU s',.bool b])=true:=by simp only[tree,trees,cI,Bool.and_self]
 refine ae.aD af Tryz.func14 rfl Bw yCi SJ λ C hC M0=>?_;rw[Tryz.ntmps14] at hC;clear SJ;simp only[mY,hiC,cU,lJ,cf,dk,ints] at SF hR MY tR |-;rcases hK with rfl | rfl
 all_goals
  apply aq;simp[hC];apply aq;simp[hC];refine cS MY SF ?_;simp[hC]
  repeat first
   | apply T.seq
   | (apply aM;simp[hC])
   | (refine bg ?_;simp)
   | (refine du ?_;simp)
   | (apply T.skip;simp)
   | apply T.block
  refine cS tR hR ?_;simp[hC];apply T.ret;refine aa.le (Le.trim [7,6] [2] 99 Vn yA) ?_;simp;apply aa.here;simp
theorem Ck (u:Un)(s s':Sy)(t:Int)(b:Bool)(i:In)(K a e1 e2 p2:Int)(g p1:Bool)(e3:ByteArray)(e4 p3 q1 q3:List CV)(e5 p4 q2 q4:Nat)(hiC:cY i=[I K,I a,.bool g,I e1,I e2,.str e3,.az e4 e5,.bool p1,I p2,.az p3 p4,.az q1 q2,.az q3 q4])(hK:K=2\/K=3)
  (SF:ae prog 33 [cf u,cU s,I t] (mY (some i))) (hR:ae prog 42 [cf u,cU s,I t,.agg (cY i)] (.cF [cU s',.bool b])) :
  ae prog 14 [cf u,cU s,I t] (.cF [cU s',.bool b]):=by
 have SH:=bm u;have TK:=cI s;have MY:trees [cf u,cU s,I t]=true:=by simp only[trees,tree,TK,cf,SH,Bool.and_self]
 have tR:trees [cf u,cU s,I t,.agg (cY i)]=true:=by simp only[trees,tree,TK,eB,cf,SH,Bool.and_self]
 have SJ:tree (.cF [cU s',.bool b])=true:=by simp only[tree,trees,cI,Bool.and_self]
 refine ae.aD af Tryz.func14 rfl Bw yCi SJ λ C hC M0=>?_;rw[Tryz.ntmps14] at hC;clear SJ;simp only[mY,hiC,cU,lJ,cf,dk,ints] at SF hR MY tR |-;rcases hK with rfl | rfl
 all_goals
  apply aq;simp[hC];apply aq;simp[hC];refine cS MY SF ?_;simp[hC]
  repeat first
   | apply T.seq
   | (apply aM;simp[hC])
   | (refine bg ?_;simp)
   | (refine du ?_;simp)
   | (apply T.skip;simp)
   | apply T.block
  refine cS tR hR ?_;simp[hC];apply T.ret;refine aa.le (Le.trim [7,6] [2] 99 Vn yA) ?_;simp;apply aa.here;simp
theorem EJ (u:Un)(s:Sy)(t:Int)(hs:Hj s)(SF:ae prog 33 [cf u,cU s,I t] (mY none)):ae prog 14 [cf u,cU s,I t] (.cF [cU s,.bool false]):=by
 have SH:=bm u;have TK:=cI s;have MY:trees [cf u,cU s,I t]=true:=by simp only[trees,tree,TK,cf,SH,Bool.and_self]
 have SJ:tree (.cF [cU s,.bool false])=true:=by simp only[tree,trees,cI,Bool.and_self]
 have SP:=Fp s hs;have tG:trees (s.gs.map dg)=true:=aP s.gs;have tT:trees (s.tb.flatMap dN)=true:=ak cm _;have tS:trees (s.ts.flatMap ez)=true:=ak b9 _;have rG:=λ ρ=>ah ρ _ tG;have rT:=λ ρ=>ah ρ _ tT;have rS:=λ ρ=>ah ρ _ tS;refine ae.aD af Tryz.func14 rfl Bw yCi SJ λ C hC M0=>?_;rw[Tryz.ntmps14] at hC;clear SJ;simp only[mY,cU,lJ,cf,dk,ints,Sl] at *;apply aq;simp[hC];apply aq;simp[hC];refine cS MY SF ?_;simp[hC]
 repeat first
  | apply T.seq
  | (apply aM;simp[hC])
  | (refine bg ?_;simp)
  | (refine du ?_;simp)
  | (apply T.skip;simp)
  | apply T.block
 refine TL.er af [] [] 0 6 (SP) rfl Ts Rg rfl rfl Ta Ta Xe Ta Ta (TL.go' af ?_);simp[hC,bz,bb,aX,cO,bU,rG,rT,rS];apply T.ret;refine aa.le (Le.norm [7,6] [(4,0),(5,1),(6,2),(2,5)] 0 6 SZ SY yDc yA) ?_;simp[cq,bb,aX,cO,ec,assoc,rG,rT,rS];refine Lj tG tT tS xr (aG dh _) (by simpa using aG nJ s.ts) ?_;simp
theorem EK (u:Un)(s:Sy)(t:Nat)(l0:List Fr)(f:Fr)(g:Nat)(SF:ae prog 33 [cf u,cU s,I t] (mY (some (.jump g))))(hl:s.ts[t]? = some (l0++[f]))(Tq:s.fault=0)(hs:Hj s)(h6:f.pc<=1000000) :
  ae prog 14 [cf u,cU s,I t] (.cF [cU { s with ts:=s.ts.set t (l0++[{ f with pc:=g }]) },.bool true]):=by
 have VA:=mem_of_getElem? hl;have TY:=(hs.f _ VA).1;have UI:l0.length<=1000000:=by simp at TY;omega
 have TV:=rz s t l0 f hl hs;have TK:=cI s;have SH:=bm u;have MY:trees [cf u,cU s,I t]=true:=by simp only[trees,tree,TK,cf,SH,Bool.and_self]
 have SJ:tree (.cF [cU { s with ts:=s.ts.set t (l0++[{ f with pc:=g }]) },.bool true])=true:=by simp only[tree,trees,cI,Bool.and_self]
 refine ae.aD af Tryz.func14 rfl Bw yCi SJ λ C hC M0=>?_;rw[Tryz.ntmps14] at hC;clear SJ;have tG:trees (s.gs.map dg)=true:=aP s.gs;have tT:trees (s.tb.flatMap dN)=true:=ak cm _;have tL:trees (l0.flatMap ed)=true:=ak dc _;have tV:trees (f.aV.map dg)=true:=aP f.aV;have tE:=aC f.eD;have S9:trees ((s.ts.take t).flatMap ez)=true:=ak b9 _;have Ti:trees ((s.ts.drop (t+1)).flatMap ez)=true:=ak b9 _;have rG:=λ ρ=>ah ρ _ tG;have rT:=λ ρ=>ah ρ _ tT;have rL:=λ ρ=>ah ρ _ tL;have rV:=λ ρ=>ah ρ _ tV;have r1:=λ ρ=>ah ρ _ S9;have r2:=λ ρ=>ah ρ _ Ti;have rE:=λ ρ=>ah ρ _ tE;have ra:∀ ρ (a b:List CV),aX ρ (a++b)=aX ρ a++aX ρ b:=λ ρ a b=>by rw[cd,cd,cd,map_append]
 simp only[mY,cY,bf,oE,cons_append,nil_append,cU,lJ,cf,dk,ints,Mq] at SF TV MY |-;apply aq;simp[hC];apply aq;simp[hC];refine cS MY SF ?_;simp[hC]
 repeat first
  | apply T.seq
  | (apply aM;simp[hC])
  | (refine bg ?_;simp)
  | (refine du ?_;simp)
  | (apply T.skip;simp)
  | apply T.block
 refine TL.er af [] [] 0 6 (TV) rfl Ts Rg rfl rfl Ta Ta Xe Ta Ta (TL.go' af ?_);simp[hC,bz,bb,aX,cO,bU,rG,rT,rL,rV,r1,r2,ra,aA];refine T.le (Le.norm [10,8,7,6,2] [(4,0),(5,1),(6,2),(7,3),(8,4),(10,5),(2,6),(3,7)] 0 8 SZ SY Xu yA) ?_;simp[cq,bb,aX,cO,ec,assoc,rG,rT,rL,rV,r1,r2,ra];generalize hA:(s.ts.take t).flatMap ez=A at S9 r1 |-;generalize hB:(s.ts.drop (t+1)).flatMap ez=B at Ti r2 |-;generalize hD:l0.flatMap ed=D at tL rL |-;have SM:=(List.getElem?_eq_some_iff.1 hl).1;have lA:A.length=t:=by rw[<- hA,gh,length_map,length_take];omega
 have lB:B.length=s.ts.length-(t+1):=by rw[<- hB,gh,length_map,length_drop]
 have lD:D.length=l0.length*4:=by rw[<- hD];exact aG en l0
 have WN:=ld s.gs.length s.tb.length s.ts.length t l0.length f.proc f.pc f.aV.length f.eD.length A B D _ _ S9 Ti tL tE tV _ (.inl rfl) lA lD SM hs.t UI;rw[Tq];have a1:A.all (aU 5)=true:=by rw[<- aT];exact bF 5 _ S9
 have a2:B.all (aU 5)=true:=by rw[<- aT];exact bF 5 _ Ti
 have a3:D.all (aU 5)=true:=by rw[<- aT];exact bF 5 _ tL
 have dD:∀ r:List CV,(D++r).drop (l0.length*4)=r:=λ r=>by rw[<- lD];simp
 have U7:∀ (r:List CV) (k:Nat),(D++r).drop (l0.length*4+k)=r.drop k:=λ r k=>by rw[<- lD,drop_append];simp
 have V3:∀ (r:List CV) (k:Nat),(D++r).take (l0.length*4+k)=D++r.take k:=λ r k=>by rw[<- lD,take_append,take_of_length_le yA];simp
 have Wd:∀ (r:List CV),(D++r).drop (l0.length*4+1+1)=r.drop 2:=λ r=>U7 r 2;have w3:=cr ((f.pc:Int)+1) yA yA;have kF:∀ a b c d:CV,take ((l0.length+1)*4) (D++[a,b,c,d])=D++[a,b,c,d]:=λ a b c d=>take_of_length_le Tv;have SQ:(s.ts.set t (l0++[{ f with pc:=g }])).flatMap ez=A++.az (D++[I f.proc,I g,.az (f.aV.map dg) f.aV.length,.az (f.eD.map λ n:Nat=>I n) f.eD.length]) (l0.length+1)::B:=by
  rw[set_eq_take_append_cons_drop,if_pos SM,flatMap_append,flatMap_cons,hA,hB];simp[ez,ed,hD,ints,aA]
 repeat first
  | apply T.seq
  | (apply aM;simp[hC])
  | (refine bg ?_;simp)
  | (refine du ?_;simp)
  | (apply T.skip;simp)
  | apply T.block
 refine T.rx af follows [0,1,3,4,2,5,6,7] [(4,2)] Bw ?_;simp[hC];refine RX.er [0,1,2,3,4] [2,3,4] [] 5 0 WN rfl Ts rfl xr rfl rfl Ts yCb Ts yCa Ts (by simp[sZ,bz,bb,assoc,bU]) (λ p _ _=>rfl) ?_;simp[bz,bb,aX,cO,bU,rL,rV,r1,r2,ra,lD,V3,Wd];apply aq;simp[hC];apply T.ret;refine aa.le (Le.norm [7,6] [(0,0),(1,1),(2,2),(3,3),(4,4),(6,5)] 0 6 SZ SY Xu yA) ?_;simp[cq,bb,aX,cO,ec,assoc,rG,rT,rL,rV,r1,r2,ra];refine lY tG tT S9 Ti tL tE tV rfl xr (aG dh _) yA xr ?_;simp[SQ,kF]
theorem HR (u:Un)(s:Sy)(t:Nat)(l0:List Fr)(f:Fr)(SF:ae prog 33 [cf u,cU s,I t] (mY (some .ret)))(hl:s.ts[t]? = some (l0++[f]))(Tq:s.fault=0)(hs:Hj s) :
  ae prog 14 [cf u,cU s,I t] (.cF [cU { s with ts:=s.ts.set t l0 },.bool true]):=by
 have VA:=mem_of_getElem? hl;have TY:=(hs.f _ VA).1;have UI:l0.length<=1000000:=by simp at TY;omega
 have TV:=rz s t l0 f hl hs;have TK:=cI s;have SH:=bm u;have MY:trees [cf u,cU s,I t]=true:=by simp only[trees,tree,TK,cf,SH,Bool.and_self]
 have SJ:tree (.cF [cU { s with ts:=s.ts.set t l0 },.bool true])=true:=by simp only[tree,trees,cI,Bool.and_self]
 refine ae.aD af Tryz.func14 rfl Bw yCi SJ λ C hC M0=>?_;rw[Tryz.ntmps14] at hC;clear SJ;have tG:trees (s.gs.map dg)=true:=aP s.gs;have tT:trees (s.tb.flatMap dN)=true:=ak cm _;have tL:trees (l0.flatMap ed)=true:=ak dc _;have tV:trees (f.aV.map dg)=true:=aP f.aV;have tE:=aC f.eD;have S9:trees ((s.ts.take t).flatMap ez)=true:=ak b9 _;have Ti:trees ((s.ts.drop (t+1)).flatMap ez)=true:=ak b9 _;have rG:=λ ρ=>ah ρ _ tG;have rT:=λ ρ=>ah ρ _ tT;have rL:=λ ρ=>ah ρ _ tL;have rV:=λ ρ=>ah ρ _ tV;have r1:=λ ρ=>ah ρ _ S9;have r2:=λ ρ=>ah ρ _ Ti;have rE:=λ ρ=>ah ρ _ tE;have ra:∀ ρ (a b:List CV),aX ρ (a++b)=aX ρ a++aX ρ b:=λ ρ a b=>by rw[cd,cd,cd,map_append]
 simp only[mY,cY,bf,oE,cons_append,nil_append,cU,lJ,cf,dk,ints,Mq] at SF TV MY |-;apply aq;simp[hC];apply aq;simp[hC];refine cS MY SF ?_;simp[hC]
 repeat first
  | apply T.seq
  | (apply aM;simp[hC])
  | (refine bg ?_;simp)
  | (refine du ?_;simp)
  | (apply T.skip;simp)
  | apply T.block
 refine TL.er af [] [] 0 6 (TV) rfl Ts Rg rfl rfl Ta Ta Xe Ta Ta (TL.go' af ?_);simp[hC,bz,bb,aX,cO,bU,rG,rT,rL,rV,r1,r2,ra,aA];refine T.le (Le.norm [10,8,7,6,2] [(4,0),(5,1),(6,2),(7,3),(8,4),(10,5),(2,6),(3,7)] 0 8 SZ SY Xu yA) ?_;simp[cq,bb,aX,cO,ec,assoc,rG,rT,rL,rV,r1,r2,ra];generalize hA:(s.ts.take t).flatMap ez=A at S9 r1 |-;generalize hB:(s.ts.drop (t+1)).flatMap ez=B at Ti r2 |-;generalize hD:l0.flatMap ed=D at tL rL |-;have SM:=(List.getElem?_eq_some_iff.1 hl).1;have lA:A.length=t:=by rw[<- hA,gh,length_map,length_take];omega
 have lB:B.length=s.ts.length-(t+1):=by rw[<- hB,gh,length_map,length_drop]
 have lD:D.length=l0.length*4:=by rw[<- hD];exact aG en l0
 have WN:=ld s.gs.length s.tb.length s.ts.length t l0.length f.proc f.pc f.aV.length f.eD.length A B D _ _ S9 Ti tL tE tV _ (.inl rfl) lA lD SM hs.t UI;rw[Tq];have a1:A.all (aU 5)=true:=by rw[<- aT];exact bF 5 _ S9
 have a2:B.all (aU 5)=true:=by rw[<- aT];exact bF 5 _ Ti
 have a3:D.all (aU 5)=true:=by rw[<- aT];exact bF 5 _ tL
 have dD:∀ r:List CV,(D++r).drop (l0.length*4)=r:=λ r=>by rw[<- lD];simp
 have U7:∀ (r:List CV) (k:Nat),(D++r).drop (l0.length*4+k)=r.drop k:=λ r k=>by rw[<- lD,drop_append];simp
 have V3:∀ (r:List CV) (k:Nat),(D++r).take (l0.length*4+k)=D++r.take k:=λ r k=>by rw[<- lD,take_append,take_of_length_le yA];simp
 have Wd:∀ (r:List CV),(D++r).drop (l0.length*4+1+1)=r.drop 2:=λ r=>U7 r 2;have dA:∀ r:List CV,(A++r).drop t=r:=λ r=>by rw[<- lA];simp
 have dA1:∀ (x:CV) (r:List CV),(A++x::r).drop (t+1)=r:=λ x r=>by rw[<- lA,drop_append];simp
 have w1:=cr (l0.length:Int) yA yA;have w2:(l0.length:Int)<(l0.length:Int)+1:=by omega
 have kF:∀ r:List CV,take (l0.length*4) (D++r)=D:=λ r=>by rw[<- lD,take_left]
 have SQ:(s.ts.set t l0).flatMap ez=A++.az D l0.length::B:=by
  rw[set_eq_take_append_cons_drop,if_pos SM,flatMap_append,flatMap_cons,hA,hB];simp[ez,hD]
 repeat first
  | apply T.seq
  | (apply aM;simp[hC,SM,dA])
  | (refine T.cond (b:=false) ?_ ?_;(first | rfl | (simp[ev,assoc,SM,lA,dA];done));simp)
  | (refine T.cond (b:=true) ?_ ?_;(first | rfl | (simp[ev,assoc,SM,lA,dA];done));simp)
  | (apply T.skip;simp)
  | apply T.block
 refine T.rx af follows [0,1,2,3,4,5,6,7,8,9,10] [] Bw ?_;simp[hC,SM,lA,dA1,w1];apply aq;simp[hC];apply T.ret;refine aa.le (Le.norm [7,6] [(0,0),(1,1),(2,2),(3,3),(4,4),(6,5)] 0 6 SZ SY Xu yA) ?_;simp[cq,bb,aX,cO,ec,assoc,rG,rT,rL,rV,r1,r2,ra];refine lY tG tT S9 Ti tL tE tV rfl xr (aG dh _) yA xr ?_;simp[SQ,kF]
theorem pK.bounds {u:Un}(hu:gg u){k:Nat}(hk:k<=1000){s:Sy}(h:pK u k s):s.gs.length<=1000000/\s.tb.length<=1000000/\s.ts.length<=1000000/\(∀ l∈s.ts,l.length<=1000000)/\∀ l∈s.ts,∀ f∈l,f.aV.length<=1000000/\f.pc<=1000000:=by
 have h1:=hu.ng;have h2:=Ai hu;have h3:=h.gs;have h4:=h.tb;have h5:=h.ts;refine⟨by omega,by omega,by omega,λ l hl=>by have:=h.fl l hl;omega,λ l hl f hf=>?_⟩;obtain⟨q,hq,gQ,hv,_⟩:=(h.fr l hl f hf).q;have h6:=hu.pr q (mem_of_getElem? hq);omega
end Go.Proofs.YtlkmbdfhdknlgaaGreat
set_option maxHeartbeats 4000000
namespace Go.aK
open Go.Can List
def AW (p:Int)(ls:List Int):List Int:=[p,ls.length]++ls++replicate (6-ls.length) 0
theorem AX (p:Int)(ls:List Int)(h:ls.length<=6):jT p ls=(AW p ls).map λ n:Int=>I n:=by
 match ls,h with
 | [],_=>rfl
 | [_],_=>rfl
 | [_,_],_=>rfl
 | [_,_,_],_=>rfl
 | [_,_,_,_],_=>rfl
 | [_,_,_,_,_],_=>rfl
 | [_,_,_,_,_,_],_=>rfl
 | _::_::_::_::_::_::_::_,h=>simp at h
theorem CY {p p':Int}{ls ZN:List Int}:AW p ls=AW p' ZN↔p=p'/\ls=ZN:=by
 refine⟨λ h=>?_,λ⟨h1,h2⟩=>by rw[h1,h2]⟩;simp only[AW,cons_append,nil_append,cons.injEq] at h;obtain⟨h1,h2,h3⟩:=h;refine⟨h1,?_⟩;have hl:ls.length=ZN.length:=by omega
 have:=congrArg (take ls.length) h3;rwa [take_left,hl,take_left] at this
def E8 (p:Int)(ls:List Int):Value:=.agg ((AW p ls).map λ n:Int=>Value.int .i64 n).toArray
theorem Lz (l:List Int):QX (l.map λ n:Int=>I n)=some (l.map λ n:Int=>Value.int .i64 n):=by
 induction l with
 | nil=>rfl
 | cons a r ih=>simp only[map_cons,QX,cv1,ih]
theorem zW (p:Int)(ls:List Int)(h:ls.length<=6):lu (.agg (jT p ls))=some (E8 p ls):=by
 rw[AX p ls h];simp only[lu,Lz,E8]
theorem y7:∀ (a b:List Int),wO (a.map λ n:Int=>Value.int .i64 n) (b.map λ n:Int=>Value.int .i64 n)=decide (a=b)
 | [],[]=>rfl
 | [],_::_=>rfl
 | _::_,[]=>rfl
 | x::a,y::b=>by
  simp only[map_cons,wO,y7 a b,BS];by_cases h:x=y<;>simp[h]
theorem My (p p':Int)(ls ZN:List Int):BE (E8 p ls) (E8 p' ZN)=(decide (p=p') && decide (ls=ZN)):=by
 simp only[E8,BE,y7];by_cases h:AW p ls=AW p' ZN
 .have:=CY.1 h;simp[this.1,this.2]
 .have h2:¬ (p=p'/\ls=ZN):=λ e=>h (CY.2 e);rw[decide_eq_false h];by_cases e:p=p'<;>simp_all
theorem Cg (p:Int)(ls:List Int)(h:ls.length<=6)(hp:C5 p=true)(hls:∀ n∈ls,C5 n=true):qR 8 (E8 p ls)=true:=by
 have h2:C5 (ls.length:Int)=true:=by simp only[C5,Bool.and_eq_true,decide_eq_true_eq];omega
 simp only[qR,E8,Bool.and_eq_true,decide_eq_true_eq];refine⟨by simp[AW];omega,all_eq_true.2 λ v hv=>?_⟩;simp only[mem_map,AW,mem_append,mem_cons,not_mem_nil,or_false,mem_replicate] at hv;obtain⟨n,hn,rfl⟩:=hv;simp only[wI];rcases hn with ((rfl | rfl) | hn) | ⟨_,rfl⟩
 .exact hp
 .exact h2
 .exact hls n hn
 .rfl
theorem zR (p:Int)(ls:List Int)(hls:6<ls.length):∀ (l:List Is) (i:Int),(∀ x∈l,x.bh.length<=6)->ln l p ls i=-1
 | [],_,_=>rfl
 | y::r,i,h=>by
  have hy:=h y mem_cons_self;rw[ln,if_neg,zR p ls hls r (i+1) λ x hx=>h x (mem_cons_of_mem _ hx)];simp only[nO,Bool.and_eq_true,decide_eq_true_eq];rintro⟨_,e⟩;rw[<- e] at hls;simp at hls;omega
end Go.aK
namespace Go.Proofs.YtlkmbdfhdknlgaaGreat
open Go.Can Go.aK List Tryz
theorem NL:zV prog 3 8 221=true:=by kernel_rfl
theorem keyEq:EqT prog 221 (qR 8):=Dk yA NL Bw
theorem keyEI:Mh prog [⟨221,qR 8⟩]:=λ x hx=>by
 simp only[mem_cons,not_mem_nil,or_false] at hx;subst hx;exact keyEq
theorem Lm {C:Cx}{s:St}{o:Oper}{x y:Operand}{q:TypeId}{cx cy:CV}{vx vy:Value}(hd:bj C.nt o.dst=true)(ho:o.op=.binOp .eql 221 x y q)(hx:ev s x=some cx)(hy:ev s y=some cy)(h1:lu cx=some vx)(h2:lu cy=some vy)(k1:qR 8 vx=true)(k2:qR 8 vy=true):rO prog C o s (s.put o.dst (.bool (BE vx vy))):=
 x5 keyEI hd (by simp only[Dj,ho,hx,hy,h1,h2,QR,if_true,k1,k2,and_self])
theorem CZ (p:Int)(ls:List Int)(h:ls.length<=6):(jT p ls).length=8:=by simp[jT,gX];omega
theorem zL (p:Int)(ls:List Int)(h:ls.length<=6):(jT p ls).all one=true:=by
 rw[AX p ls h];exact all_eq_true.2 λ x hx=>by
  obtain⟨n,_,rfl⟩:=mem_map.1 hx;rfl
theorem xN (p:Int)(ls:List Int)(h:ls.length<=6):trees (jT p ls)=true:=by
 rw[AX p ls h];exact aP _
def J31 (l:List Is)(p:Int)(ls:List Int)(n:Nat)(s:St):Prop:=∃ i:Nat,n=l.length-i/\i<=l.length/\ln l p ls 0=ln (l.drop i) p ls i/\
 s=⟨[(21,I i),(20,I l.length),(19,.az (l.flatMap dW) l.length),(5,.ax 2 0)],[(2,⟨221,0,jT p ls⟩)],3⟩
theorem K1 (l:List Is)(hl:l.length<=100000)(TY:∀ x∈l,x.bh.length<=6/\C5 x.proc=true/\∀ n∈x.bh,C5 (n:Int)=true)(X Y:CV)(_hX:tree X=true)(_hY:tree Y=true)(p:Int)(ls:List Int)(hp:C5 p=true)(hls:∀ n∈ls,C5 n=true) :
  ae prog 79 [.agg [.az (l.flatMap dW) l.length,X,Y],.agg [I p,ints ls]] (I (ln l p ls 0)):=by
 have YU:tree (ints ls)=true:=by simp[ints,tree]
 have MY:trees [.agg [I p,ints ls]]=true:=by simp only[trees,tree,YU,Bool.and_self]
 refine ae.aD af Tryz.func79 rfl Bw (by simp[Tryz.ntmps79]) rfl λ C hC M0=>?_;rw[Tryz.ntmps79] at hC;apply aq;simp[hC];by_cases h6:ls.length<=6
 .have SO:=CZ p ls h6;have hko:=zL p ls h6;have Zj:(jT p ls).take 8=jT p ls:=take_of_length_le yA;have tkc:=xN p ls h6;apply aq;simp[hC];refine cS MY (CX p ls h6) ?_;simp[hC,SO];apply aW;simp[hC];refine gk ?_;simp;apply aW;simp[hC];apply T.block;refine T.aI (J31 l p ls) (n:=l.length) ?_ ?_
  .refine aa.trim [21,20,19,5] [2] 3 (by simp[-all_eq_true,-all_flatMap,ai tkc]) yA ⟨0,by omega,by omega,rfl,?_⟩;simp
  .rintro n s ⟨i,rfl,hi,hf,rfl⟩;by_cases Jz:i<l.length
   .obtain⟨y,hy⟩:∃ y,l[i]? = some y:=⟨l[i],getElem?_eq_getElem Jz⟩;have hd:l.drop i=y::l.drop (i+1):=by
     rw[drop_eq_getElem_cons Jz,(List.getElem?_eq_some_iff.1 hy).2]
    rw[hd,ln] at hf;have OZ:=aL (f:=dW) (n:=2) g9 hy;have wi:=cr ((i:Int)+1) yA yA;obtain⟨hy6,hyp,hyl⟩:=TY y (mem_of_getElem? hy);have Xw:(y.bh.map λ n:Nat=>(n:Int)).length<=6:=by simpa using hy6
    have hyls:∀ n∈(y.bh.map λ n:Nat=>(n:Int)),C5 n=true:=λ n hn=>by
     obtain⟨m,hm,rfl⟩:=mem_map.1 hn;exact hyl m hm
    have Tk:trees [.agg [I y.proc,aA y.bh]]=true:=by simp only[trees,tree,aE,Bool.and_self]
    have hkey:=CX y.proc _ Xw;rw[<- kR] at hkey;have YC:=CZ y.proc _ Xw;have ZR:(jT y.proc (y.bh.map λ n:Nat=>(n:Int))).take 8=jT y.proc (y.bh.map λ n:Nat=>(n:Int)):=take_of_length_le yA;have tkc2:=xN y.proc _ Xw;have hko2:=zL y.proc _ Xw;have Z7:=zW p ls h6;have hcv2:=zW y.proc _ Xw;have UU:=Cg p ls h6 hp hls;have hre2:=Cg y.proc _ Xw hyp hyls;have hveq:=My y.proc p (y.bh.map λ n:Nat=>(n:Int)) ls;have Vy:nO y p ls=(decide ((y.proc:Int)=p) && decide ((y.bh.map λ n:Nat=>(n:Int))=ls)):=rfl;generalize (y.bh.map λ n:Nat=>(n:Int))=yl at Vy hkey YC ZR tkc2 hko2 hcv2 hre2 hveq;apply aq;simp[hC,Jz];refine T.seq (T.cond (b:=true) rfl (T.skip ?_));simp;apply eE;apply aq;simp[hC,Jz,OZ,dW];apply aq;simp[hC];refine cS Tk hkey ?_;simp[hC,YC];refine T.seq (T.region (TL.some af 2 ?_));simp[hC,SO,Zj,YC,ZR];refine gW rfl (Lm (x:=.tmp 31) (y:=.tmp 32) (cx:=.agg (jT y.proc yl)) (cy:=.agg (jT p ls)) Rg rfl xr xr hcv2 Z7 hre2 UU) ?_;rw[hveq,<- Vy];refine TL.go' af ?_;simp
    cases hr:nO y p ls with
    | true=>
     rw[if_pos hr] at hf;refine du ?_;simp;apply aq;simp[hC];apply T.ret;apply aa.here;simp[Tryz.results79,hf]
    | false=>
     rw[if_neg (by simp[hr])] at hf;refine gk ?_;simp;apply aM;simp[hC,wi];refine⟨l.length-(i+1),by omega,aa.trim [21,20,19,5] [2] 3 (by simp[-all_eq_true,-all_flatMap,ai tkc]) yA ⟨i+1,rfl,by omega,hf,?_⟩⟩;simp
   .have Rz:i=l.length:=by omega
    rw[Rz,drop_length,ln] at hf;have Tw:=hf;apply aq;simp[hC,Jz];refine T.seq (T.cond (b:=false) rfl ?_);simp;apply T.exit;simp;apply aq;simp[hC];apply T.ret;apply aa.here;simp[Tryz.results79,Tw]
 .have h6':6<ls.length:=by omega
  have Tw:=zR p ls h6' l 0 λ x hx=>(TY x hx).1;apply aq;simp[hC];refine cS MY (Ij p ls h6') ?_;simp[hC];apply aW;simp[hC];refine du ?_;simp;apply aq;simp[hC];apply T.ret;apply aa.here;simp[Tryz.results79,Tw]
theorem CJ {u:Un}{e:Nat}(h:e<(bT u.ms).length):lj u.ms e=(lg u.ms e:Int):=by
 rw[lj,if_neg yA,Int.toNat_natCast,getElem?_eq_getElem h,lg,getD_eq_getElem?_getD,getElem?_eq_getElem h];rfl
def J45 (u:Un)(f:Fr)(n:Nat)(s:St):Prop:=∃ i:Nat,n=f.eD.length-i/\i<=f.eD.length/\
 s=⟨[(14,I i),(13,I f.eD.length),(12,.az (f.eD.map λ n:Nat=>I n) f.eD.length),(5,.ax 3 0),(4,.ax 2 0),(2,.ax 0 0)],[(4,cV ((f.eD.take i).map (lg u.ms))),(3,⟨95,0,[I f.proc,.a7 4 0 i]⟩),(2,⟨95,0,[I 0,.aj]⟩),(0,⟨30,0,dk u⟩)],5⟩
theorem zN {u:Un}(hu:gg u)(f:Fr)(hl:f.eD.length<=1000)(he:∀ e∈f.eD,e<(bT u.ms).length):ae prog 35 [cf u,.agg (ed f)] (.agg (dW (gv u.ms f))):=by
 have VS:=nC hu;have ZY:=Ai hu;have tE:=aC f.eD;have tV:=aP f.aV;have YS:trees (u.gs.map dg)=true:=aP u.gs;have YR:=dw u.ms;have cF:trees (u.ps.flatMap nA)=true:=ak fS u.ps;have SJ:tree (.agg (dW (gv u.ms f)))=true:=by simp only[tree,bS]
 refine ae.aD af Tryz.func35 rfl Bw (by simp[Tryz.ntmps35]) SJ λ C hC M0=>?_;rw[Tryz.ntmps35] at hC;simp only[cf,dk,ed,ints,aA];apply aq;simp[hC];apply aq;simp[hC];apply aW;simp[hC];apply T.block;refine T.aI (J45 u f) (n:=f.eD.length) ?_ ?_
 .refine aa.le (Le.mU 3 1 3 1 rfl rfl) ?_;simp;refine aa.trim [14,13,12,5,4,2] [4,3,2,0] 5 Vn yA ⟨0,by omega,by omega,?_⟩;simp[cV,dk,ints]
 .rintro n s ⟨i,rfl,hi,rfl⟩;simp only[cV,dk,ints];by_cases Jz:i<f.eD.length
  .obtain⟨a,XN⟩:∃ a,f.eD[i]? = some a:=⟨_,getElem?_eq_getElem Jz⟩;have Zy:=he a (mem_of_getElem? XN);have WS:=dV XN;have VQ:=vk u.ms VS a yA;rw[CJ Zy] at VQ;have MY:trees [.az (u.ms.flatMap cP) u.ms.length,I a]=true:=by simp only[trees,tree,Bool.and_self]
   have wi:=cr ((i:Int)+1) yA yA;have SE:(f.eD.take (i+1)).map (lg u.ms)=(f.eD.take i).map (lg u.ms)++[lg u.ms a]:=by
    rw[take_add_one,XN];simp
   have Uo:((f.eD.take i).map (lg u.ms)).length=i:=by simp;omega
   generalize (f.eD.take i).map (lg u.ms)=B at Uo SE;have bd:(i+1)*8<=140737488355328:=by omega
   apply aq;simp[hC,Jz];refine T.seq (T.cond (b:=true) rfl (T.skip ?_));simp;apply eE;apply aq;simp[hC,Jz,WS];refine T.rx af follows [0,1,2,3,4,5,6,7,8,9] [(1,5),(1,6)] Bw ?_;simp[hC];refine RX.call rfl rfl rfl rfl rfl MY VQ ?_;simp[Uo,bd,aY];apply aM;simp[hC,wi];refine⟨f.eD.length-(i+1),by omega,?_⟩;have YV:trees (B.map (λ n:Nat=>I n)++[I (lg u.ms a)])=true:=by rw[a9,aC];rfl
   have Zf:=λ ρ=>ah ρ _ YV;have r1:=λ ρ=>ah ρ _ tE;have r2:=λ ρ=>ah ρ _ YS;have r3:=λ ρ=>ah ρ _ YR;have r4:=λ ρ=>ah ρ _ cF;refine aa.le (Le.norm [14,13,12,5,4,2] [(15,4),(3,3),(2,2),(0,0)] 0 5 SZ SY yCj yA) ?_;simp[cq,bb,aX,cO,ec,assoc,Zf];refine aa.here ⟨i+1,rfl,by omega,?_⟩;rw[SE];simp[cV,dk,ints]
  .have Rz:i=f.eD.length:=by omega
   subst Rz;rw[take_length];have tO:=aC (f.eD.map (lg u.ms));have tkO:take f.eD.length ((f.eD.map (lg u.ms)).map λ n:Nat=>I n)=(f.eD.map (lg u.ms)).map λ n:Nat=>I n:=take_of_length_le xr;generalize hW:f.eD.map (lg u.ms)=W at tO tkO |-;have Wb:W.length=f.eD.length:=by rw[<- hW];simp
   apply aq;simp[hC];apply T.seq;refine T.cond (b:=false) Tt ?_;simp;apply T.exit;simp;apply aq;simp[hC];apply T.ret;refine aa.le (Le.trim [4] [2,4] 5 (by simp[-all_eq_true,-all_flatMap,-all_map,ai tO]) yA) ?_;simp;refine aa.le (Le.di (o:=4) rfl tO) ?_;simp[tkO];apply aa.here;simp[dW,gv,aA,hW,Wb]
def xv (x:Int):Int:=if x.tmod 16=7 then x else x % 4
def dL (l:List Int)(n:Nat):List Int:=(l.take n).map xv
def J38n (l:List Int)(n:Nat)(m:Nat)(s:St):Prop:=∃ i:Nat,m=min l.length n-i/\i<=min l.length n/\
 s=⟨[(6,I i),(5,.a7 0 0 i),(1,I n),(0,.az (l.map dg) l.length)],[(0,⟨3,1,(dL l i).map dg⟩)],1⟩
theorem jz (l:List Int)(n:Nat):(dL l n).length=min l.length n:=by simp[dL,Nat.min_comm]
theorem Kb (l:List Int)(hl:l.length<=9223372036854775807)(n:Nat)(hn:n<=1000):ae prog 9 [ints l,I n] (ints (dL l n)):=by
 have tl:trees (l.map dg)=true:=aP l;refine ae.aD af Tryz.func9 rfl Bw (by simp[Tryz.ntmps9]) rfl λ C hC M0=>?_;rw[Tryz.ntmps9] at hC;simp only[ints];apply aq;simp[hC];apply aq;simp[hC];apply aW;simp[hC];apply T.block;refine T.aI (J38n l n) (n:=min l.length n) ?_ ?_
 .refine aa.le (Le.own 5 3 1 rfl) ?_;simp[St.own];refine aa.trim [6,5,1,0] [0] 1 (by simp[-all_eq_true,-all_map]) yA ⟨0,by omega,by omega,?_⟩;simp[dL]
 .rintro m s ⟨i,rfl,hi,rfl⟩;have tp:trees ((dL l i).map dg)=true:=aP _;have Tx:(dL l i).length=i:=by rw[jz];omega
  by_cases Jz:i<l.length
  .by_cases SF:i<n
   .obtain⟨x,hx⟩:∃ x,l[i]? = some x:=⟨_,getElem?_eq_getElem Jz⟩;have UD:(l.map dg).drop i=I x::(l.map dg).drop (i+1):=by
     rw[drop_eq_getElem_cons (by simpa using Jz)];simp[(List.getElem?_eq_some_iff.1 hx).2]
    have wi:=cr ((i:Int)+1) yA yA;have Sz:dL l (i+1)=dL l i++[xv x]:=by
     simp only[dL];rw[take_add_one,hx];simp
    have bd:(i+1)*8<=140737488355328:=by omega
    have tp1:trees ((dL l i).map dg++[I (xv x)])=true:=by rw[a9,tp];rfl
    have rp1:=λ ρ=>ah ρ _ tp1;apply aW;simp[hC,Jz,SF];refine T.cond (b:=true) Tt (T.skip ?_);simp;apply eE;by_cases h7:x.tmod 16=7
    .have hz:xv x=x:=by simp[xv,h7]
     rw[hz] at Sz tp1 rp1;apply aq;simp[hC,Jz,UD,h7];refine du ?_;simp;apply aM;simp[hC,Jz,UD,bd,Tx,aY];apply aM;simp[hC,wi];refine⟨min l.length n-(i+1),by omega,?_⟩;refine aa.le (Le.norm [6,5,1,0] [(2,0)] 0 1 SZ SY yE yA) ?_;simp[cq,bb,cO,ec,assoc,rp1];refine aa.here ⟨i+1,rfl,by omega,?_⟩;rw[Sz];simp
    .have hz:xv x=x % 4:=by simp[xv,h7]
     rw[hz] at Sz tp1 rp1;have h7b:(x.tmod 16 == 7)=false:=by rw[beq_eq_false_iff_ne];exact h7
     have hwi:=pO x 4 yA yA;apply aq;simp[hC,Jz,UD];refine T.cond (b:=false) (by simp[ev,assoc,h7b]) ?_;simp;apply aM;simp[hC,Jz,UD];refine cS rfl hwi ?_;simp[hC,bd,Tx,aY];apply aM;simp[hC,wi];refine⟨min l.length n-(i+1),by omega,?_⟩;refine aa.le (Le.norm [6,5,1,0] [(2,0)] 0 1 SZ SY yE yA) ?_;simp[cq,bb,cO,ec,assoc,rp1];refine aa.here ⟨i+1,rfl,by omega,?_⟩;rw[Sz];simp
   .have Rz:i=min l.length n:=by omega
    apply aW;simp[hC,Jz,SF];refine T.cond (b:=false) Tt ?_;simp;apply T.exit;simp;apply aq;simp[hC];apply T.ret;have XD:dL l i=dL l n:=by
     have:l.take i=l.take n:=by
      rw[take_eq_take_iff];omega
     rw[dL,this,dL]
    have kp:take i ((dL l n).map dg)=(dL l n).map dg:=take_of_length_le (by simp[jz];omega);have tpn:trees ((dL l n).map dg)=true:=aP _;rw[XD];refine aa.le (Le.trim [4] [0] 1 (by simp[-all_eq_true,-all_map,ai tpn]) yA) ?_;simp;refine aa.le (Le.di (o:=0) rfl tpn) ?_;simp[kp];apply aa.here;simp[jz];omega
  .apply aW;simp[hC,Jz];refine T.cond (b:=false) Tt ?_;simp;apply T.exit;simp;apply aq;simp[hC];apply T.ret;have XD:dL l i=dL l n:=by
    have:l.take i=l.take n:=by
     rw[take_eq_take_iff];omega
    rw[dL,this,dL]
   have kp:take i ((dL l n).map dg)=(dL l n).map dg:=take_of_length_le (by simp[jz];omega);have tpn:trees ((dL l n).map dg)=true:=aP _;rw[XD];refine aa.le (Le.trim [4] [0] 1 (by simp[-all_eq_true,-all_map,ai tpn]) yA) ?_;simp;refine aa.le (Le.di (o:=0) rfl tpn) ?_;simp[kp];apply aa.here;simp[jz];omega
theorem Hv (y:Sy)(h1:1<=y.ts.length)(h2:y.ts.length<=1000000)(x:Int):ae prog 17 [cU y,I x] (I (x % y.ts.length)):=by
 have hwi:=pO x y.ts.length yA yA;refine ae.aD af Tryz.func17 rfl Bw (by simp[Tryz.ntmps17]) rfl λ C hC M0=>?_;rw[Tryz.ntmps17] at hC;simp only[cU,lJ,ints];apply aq;simp[hC];apply aq;simp[hC];refine cS rfl hwi ?_;simp[hC];apply T.ret;apply aa.here;simp[Tryz.results17]
theorem Ig (u:Un)(h1:1<=u.ms.length)(h2:u.ms.length<=1000000)(x:Int):ae prog 18 [cf u,I x] (I (x % u.ms.length)):=by
 have hwi:=pO x u.ms.length yA yA;refine ae.aD af Tryz.func18 rfl Bw (by simp[Tryz.ntmps18]) rfl λ C hC M0=>?_;rw[Tryz.ntmps18] at hC;simp only[cf,dk,ints];apply aq;simp[hC];apply aq;simp[hC];refine cS rfl hwi ?_;simp[hC];apply T.ret;apply aa.here;simp[Tryz.results18]
theorem Aq {u:Un}(hu:gg u){x:Is}(hx:ub u x):∀ (c:List In) (l:List Is) (r:List Nat),(∀ i∈c,i∈ay u x)->yG u l->yG u (iM x c l r).1
 | [],_,_,_,h=>h
 | i::c,l,r,hc,h=>by
  simp only[iM];split
  .exact Aq hu hx c l r (λ j hj=>hc j (mem_cons_of_mem _ hj)) h
  .rename_i y hy;have hyv:=Fy hu hx (hc i mem_cons_self) hy;exact Aq hu hx c _ _ (λ j hj=>hc j (mem_cons_of_mem _ hj)) ⟨oA h.nd,FH h.v hyv⟩
theorem DC {u:Un}(hu:gg u):∀ (f i:Nat) (l:List Is) (cs:List (List Int)) (r:List Nat),yG u l->yG u (lz u f i l cs r).is/\l.length<=(lz u f i l cs r).is.length
 | 0,_,l,_,_,h=>⟨h,Nat.le_refl _⟩
 | f+1,i,l,cs,r,h=>by
  simp only[lz];split
  .exact⟨h,Nat.le_refl _⟩
  .rename_i x hx;have hs:=Aq hu (h.v x (mem_of_getElem? hx)) (ay u x) l r (λ _ hi=>hi) h;obtain⟨h1,h2⟩:=DC hu f (i+1) (iM x (ay u x) l r).1 (cs++[(iM x (ay u x) l r).2.1]) (iM x (ay u x) l r).2.2 hs;obtain⟨t,ht⟩:=su x (ay u x) l r;refine⟨h1,Nat.le_trans ?_ h2⟩;rw[ht];simp
theorem yg {u:Un}(hu:gg u):yG u (aw u).is/\0<(aw u).is.length:=by
 have h0:yG u [⟨u.main,[]⟩]:=⟨by simp,λ x hx=>by
  rw[mem_singleton.1 hx];have hp:=hu.np.1;obtain⟨q,hq⟩:∃ q,u.ps[0]? = some q:=⟨_,getElem?_eq_getElem yA⟩;exact⟨⟨q,by rw[hu.main];exact hq,by rw[(hu.p0 q hq).2];rfl⟩,λ l hl=>by cases hl⟩⟩
 obtain⟨h1,h2⟩:=DC hu 100 0 [⟨u.main,[]⟩] [] [0] h0;exact⟨h1,h2⟩
theorem NO {u:Un}(hu:gg u){x:Is}(h:ub u x):x.bh.length<=2:=by
 obtain⟨⟨q,hq,hl⟩,_⟩:=h;have:=(hu.pr q (mem_of_getElem? hq)).2.1;omega
theorem G3 {u:Un}(hu:gg u):(aw u).is.length<=49/\∀ z∈(aw u).is,z.bh.length<=6/\C5 z.proc=true/\∀ n∈z.bh,C5 (n:Int)=true:=by
 obtain⟨hI,VN⟩:=yg hu;refine⟨jU hu hI.nd hI.v,λ z hz=>?_⟩;have h1:=hI.v z hz;have h2:=NO hu h1;obtain⟨⟨q,hq,_⟩,hm⟩:=h1;have h3:=(List.getElem?_eq_some_iff.1 hq).1;have h4:=hu.np;have h5:=hu.nm;have SF:∀ n:Nat,n<10->C5 (n:Int)=true:=λ n hn=>by simp only[C5,Bool.and_eq_true,decide_eq_true_eq];omega
 exact⟨by omega,SF _ yA,λ n hn=>SF _ (by have:=hm n hn;omega)⟩
theorem N3 {u:Un}(hu:gg u){x:Is}(hx:x∈(aw u).is):ae prog 79 [ib (aw u),.agg (dW x)] (I (eC (aw u).is x))/\ae prog 72 [ib (aw u),.agg (dW x)] (I (eC (aw u).is x)):=by
 obtain⟨h1,h2⟩:=G3 hu;obtain⟨_,h3,h4⟩:=h2 x hx;have h5:=wy x (aw u).is 0;rw[if_pos hx] at h5;have YT:=aE (aw u).roots;have tc:tree (.az ((aw u).calls.map ints) (aw u).calls.length)=true:=by simp only[tree]
 have a1:=K1 (aw u).is yA h2 (.az ((aw u).calls.map ints) (aw u).calls.length) (aA (aw u).roots) tc YT x.proc (x.bh.map λ n:Nat=>(n:Int)) h3 (λ n hn=>by
  rw[mem_map] at hn;obtain⟨m,hm,rfl⟩:=hn;exact h4 m hm)
 have a2:=JS (aw u).is yA (λ z hz=>by have:=(h2 z hz).1;omega) (.az ((aw u).calls.map ints) (aw u).calls.length) (aA (aw u).roots) tc YT x.proc (x.bh.map λ n:Nat=>(n:Int));rw[show ((0:Nat):Int)=0 from rfl] at h5;rw[h5,Nat.add_zero] at a1 a2;rw[<- kR] at a1 a2;exact⟨a1,a2⟩
def yI (p:Nat×Nat):List CV:=[I p.1,I p.2]
theorem AH (p:Nat×Nat):(yI p).length=2:=rfl
theorem uj (p:Nat×Nat):trees (yI p)=true:=rfl
def p6 (u:Un)(f:Fr):Nat×Nat:=(eC (aw u).is (gv u.ms f),f.pc)
def DD (d:Nat)(l:List (Nat×Nat)):List CV:=[I d,.az (l.flatMap yI) l.length]
def Q7:Option (Nat×List (Nat×Nat))->CV
 | some x=>.cF [.agg (DD x.1 x.2),.bool true]
 | none=>.cF [.agg [I 0,.az [] 0],.bool false]
def Pd:Option (Nat×List (Nat×Nat))->CV
 | some x=>.iface 48 [.agg (DD x.1 x.2)]
 | none=>.iface 0 []
def fL (u:Un)(s:Sy)(t:Int)(m:Nat):Option (Nat×List (Nat×Nat)):=if t<0 then none else match s.ts[t.toNat]? with
 | none=>none
 | some l=>match u.ms[m]? with
  | none=>none
  | some x=>some (min (ck u.ms s.tb m t.toNat) (aH x),l.map (p6 u))
theorem Jo (o:Option (Nat×List (Nat×Nat))):tree (Pd o)=true:=by
 cases o with
 | none=>rfl
 | some x=>simp only[Pd,tree,trees,DD,Bool.and_self]
def J39 (u:Un)(l:List Fr)(d:Nat)(n:Nat)(s:St):Prop:=∃ i:Nat,n=l.length-i/\i<=l.length/\
 s=⟨[(46,I i),(45,I l.length),(44,.az (l.flatMap ed) l.length),(11,.ax 18 0),(6,.ax 1 0),(5,.ax 0 0)],[(19,⟨54,2,((l.take i).map (p6 u)).flatMap yI⟩),(18,⟨48,0,[I d,.a7 19 0 i]⟩),(1,⟨34,0,gE (aw u)⟩),(0,⟨30,0,dk u⟩)],20⟩
theorem EL {u:Un}(hu:gg u){k:Nat}(hk:k<=1000){s:Sy}(hs:pK u k s)(t:Int)(m:Nat)(hm:m<u.ms.length):ae prog 36 [cf u,ib (aw u),cU s,I t,I m] (Pd (fL u s t m)):=by
 obtain⟨h1,h2,h3,h4,h5⟩:=hs.bounds hu hk;have VS:=nC hu;obtain⟨x,hx⟩:∃ x,u.ms[m]? = some x:=⟨_,getElem?_eq_getElem hm⟩;refine ae.aD af Tryz.func36 rfl Bw (by simp[Tryz.ntmps36]) (Jo _) λ C hC M0=>?_;rw[Tryz.ntmps36] at hC;have tG:trees (s.gs.map dg)=true:=aP s.gs;have tT:trees (s.tb.flatMap dN)=true:=ak cm _;have tS:trees (s.ts.flatMap ez)=true:=ak b9 _;have YS:trees (u.gs.map dg)=true:=aP u.gs;have YR:=dw u.ms;have cF:trees (u.ps.flatMap nA)=true:=ak fS u.ps;have XR:=ak bS (aw u).is;have T8:=jP (aw u).calls;have YT:=aC (aw u).roots;simp only[cU,lJ,cf,dk,ib,gE,ints,aA];apply aq;simp[hC];by_cases h0:t<0
 .have hn:fL u s t m=none:=by simp[fL,h0]
  rw[hn];apply aW;simp[hC,h0];refine T.cond (b:=true) Tt ?_;simp;apply aq;simp[hC];apply T.ret;apply aa.here;simp[Tryz.results36,Pd]
 .obtain⟨j,rfl⟩:∃ j:Nat,t=j:=⟨t.toNat,by omega⟩;by_cases hj:j<s.ts.length
  .obtain⟨l,hl⟩:∃ l,s.ts[j]? = some l:=⟨_,getElem?_eq_getElem hj⟩;have hn:fL u s j m=some (min (ck u.ms s.tb m j) (aH x),l.map (p6 u)):=by simp[fL,hl,hx]
   rw[hn];have X4:=uD u.ms VS s.tb m j x hx hs.tb yA λ h hh=>⟨by have:=(hs.hd h hh).1;omega,by have:=hs.ho h hh;omega⟩;have SP:=sE x;have UD:=aL (f:=cP) (n:=3) mW hx;have UX:=MG hl;have Vs:¬ ((s.ts.length:Int)<=(j:Int)):=by omega
   have MY:trees [.az (u.ms.flatMap cP) u.ms.length,.az (s.tb.flatMap dN) s.tb.length,I m,I j]=true:=by simp only[trees,tree,Bool.and_self]
   have Tk:trees [.agg (cP x)]=true:=rfl;have UW:(if aH x<ck u.ms s.tb m j then (aH x:Int) else (ck u.ms s.tb m j:Int))=((min (ck u.ms s.tb m j) (aH x):Nat):Int):=by split<;>omega
   generalize ck u.ms s.tb m j=dd at X4 UW |-;generalize TR:min dd (aH x)=d at UW |-;apply aW;simp[hC,h0,Vs];refine T.cond (b:=false) Tt (T.skip ?_);simp;refine T.seq (T.rx af follows [0,1,2,3,4,5,7,8,9,10,11,15,6,12,13,14,16] [(1,15),(3,15),(8,15),(8,6),(11,15),(11,6),(15,6),(15,12)] Bw ?_);simp[hC,hm,UD,cP];refine RX.call rfl rfl rfl rfl rfl MY X4 ?_;simp;refine RX.call rfl rfl rfl rfl rfl Tk SP ?_;simp[UW];have tF:trees (l.flatMap ed)=true:=ak dc _;have hlb:=h4 l (mem_of_getElem? hl);apply aW;simp[hC,hj,UX,ez];refine T.le (Le.trim [46,45,44,11,6,5] [18,1,0] 19 Vn yA) ?_;simp;apply T.block;refine T.aI (J39 u l d) (n:=l.length) ?_ ?_
   .refine aa.le (Le.mU 18 1 54 2 rfl rfl) ?_;simp;refine aa.here ⟨0,by omega,by omega,?_⟩;simp[dk,gE,ints,aA]
   .rintro n U ⟨i,rfl,hi,rfl⟩;simp only[dk,gE,ints,aA];by_cases Jz:i<l.length
    .obtain⟨f,hfi⟩:∃ f,l[i]? = some f:=⟨_,getElem?_eq_getElem Jz⟩;have XJ:=hs.fr l (mem_of_getElem? hl) f (mem_of_getElem? hfi);obtain⟨q,hq,gQ,W0,SK⟩:=XJ.q;have hqv:=hu.pr q (mem_of_getElem? hq);have Vu:=zN hu f yA XJ.el;have W7:=(N3 hu XJ.ic).1;have Xf:trees [cf u,.agg (ed f)]=true:=by
      have:=bm u;simp only[trees,tree,cf,this,dc,Bool.and_self]
     have Wg:trees [ib (aw u),.agg (dW (gv u.ms f))]=true:=by
      simp only[trees,tree,ib,gE,aA,bS,Bool.and_self]
     have VI:=aL (f:=ed) (n:=4) en hfi;have wi:=cr ((i:Int)+1) yA yA;have SE:(l.take (i+1)).map (p6 u)=(l.take i).map (p6 u)++[(eC (aw u).is (gv u.ms f),f.pc)]:=by
      rw[take_add_one,hfi];simp[p6]
     have Uo:((l.take i).map (p6 u)).length=i:=by simp;omega
     generalize (l.take i).map (p6 u)=B at Uo SE;have hBl:=aG AH B;rw[Uo] at hBl;have tB:trees (B.flatMap yI)=true:=ak uj _;have bd:(i+1)*16<=140737488355328:=by omega
     have b2:i*2+2=(i+1)*2:=by omega
     have Zq:¬ ((eC (aw u).is (gv u.ms f):Nat):Int)<0:=by omega
     generalize eC (aw u).is (gv u.ms f)=ix at W7 SE Zq;obtain⟨i1,i2,i3,i4⟩:∃ p ls n,dW (gv u.ms f)=[I p,.az ls n]/\trees ls=true:=⟨_,_,_,rfl,aC _⟩;rw[i4.1] at Vu W7 Wg;simp only[cf,dk,ib,gE,ints,aA,ed] at Vu W7 Xf Wg;apply aq;simp[hC,Jz];refine T.seq (T.cond (b:=true) rfl (T.skip ?_));simp;apply eE;apply aq;simp[hC,Jz,VI,ed,ints,aA];refine T.seq (T.rx af follows [0,1,2,3,4,5] [(0,3)] Bw ?_);simp[hC];refine RX.call rfl rfl rfl rfl rfl Xf Vu ?_;simp;refine RX.call rfl rfl rfl rfl rfl Wg W7 ?_;simp;apply aW;simp[hC,Zq];refine gk ?_;simp;apply aM;simp[hC,hBl,bd,aY];apply aM;simp[hC,wi];refine⟨l.length-(i+1),by omega,?_⟩;have YV:trees (B.flatMap yI++[I ix,I f.pc])=true:=by rw[a9,tB];rfl
     have Zf:=λ ρ=>ah ρ _ YV;have r1:=λ ρ=>ah ρ _ tF;have r2:=λ ρ=>ah ρ _ YS;have r3:=λ ρ=>ah ρ _ YR;have r4:=λ ρ=>ah ρ _ cF;have r5:=λ ρ=>ah ρ _ XR;have r6:=λ ρ=>ah ρ _ T8;have r7:=λ ρ=>ah ρ _ YT;refine aa.le (Le.norm [46,45,44,11,6,5] [(28,19),(18,18),(1,1),(0,0)] 0 20 SZ SY yCj yA) ?_;simp[cq,bb,aX,cO,ec,assoc,Zf];refine aa.here ⟨i+1,rfl,by omega,?_⟩;rw[SE];simp[dk,gE,ints,aA,yI]
    .have Rz:i=l.length:=by omega
     subst Rz;rw[take_length];have tP:trees ((l.map (p6 u)).flatMap yI)=true:=ak uj _;have tkP:take (l.length*2) ((l.map (p6 u)).flatMap yI)=(l.map (p6 u)).flatMap yI:=take_of_length_le (by rw[aG AH];simp);have hPl:(l.map (p6 u)).length=l.length:=by simp
     generalize l.map (p6 u)=B at tP tkP hPl |-;apply aq;simp[hC];apply T.seq;refine T.cond (b:=false) Tt ?_;simp;apply T.exit;simp;refine T.seq (T.region (TL.some af 1 ?_));simp[hC];refine gW rfl (gU (d:=.bp [(0,3),(1,46)]) (c:=.agg [I d,.a7 19 0 l.length]) af Rg rfl xr rfl (λ h=>by cases h)) (TL.go' af ?_);simp[hC];apply T.ret;refine aa.le (Le.trim [10] [19] 20 (by simp[-all_eq_true,-all_flatMap,-all_map,ai tP]) yA) ?_;simp;refine aa.le (Le.di (o:=19) rfl tP) ?_;simp[tkP];apply aa.here;simp[Pd,DD,hPl]
  .have hn:fL u s j m=none:=by simp[fL,getElem?_eq_none (Nat.le_of_not_lt hj)]
   have Vs:(s.ts.length:Int)<=(j:Int):=by omega
   rw[hn];apply aW;simp[hC,h0,Vs];refine T.cond (b:=true) Tt ?_;simp;apply aq;simp[hC];apply T.ret;apply aa.here;simp[Tryz.results36,Pd]
theorem Jn (o:Option (Nat×List (Nat×Nat))):tree (Q7 o)=true:=by
 cases o with
 | none=>rfl
 | some x=>simp only[Q7,tree,trees,DD,Bool.and_self]
theorem vj {u:Un}(hu:gg u){k:Nat}(hk:k<=1000){s:Sy}(hs:pK u k s)(t:Int)(m:Nat)(hm:m<u.ms.length):ae prog 11 [cf u,ib (aw u),cU s,I t,I m] (Q7 (fL u s t m)):=by
 have Ws:=EL hu hk hs t m hm;have XR:=ak bS (aw u).is;have T8:=jP (aw u).calls;have YT:=aC (aw u).roots;have MY:trees [cf u,ib (aw u),cU s,I t,I m]=true:=by
  have:=bm u;simp only[trees,tree,cf,this,ib,gE,aA,cU,lJ,ints,Bool.and_self]
 refine ae.aD af Tryz.func11 rfl Bw (by simp[Tryz.ntmps11]) (Jn _) λ C hC M0=>?_;rw[Tryz.ntmps11] at hC;simp only[cU,lJ,cf,dk,ib,gE,ints,aA] at Ws MY |-;generalize fL u s t m=o at Ws |-;apply aq;simp[hC];apply aq;simp[hC]
 cases o with
 | none=>
  refine TL.call Rg rfl rfl (bW.of rfl MY Ws) ?_;refine gW rfl (FE (c:=.agg [I 0,.aj]) (z:=.agg #[.int .i64 0,.slice none 0 0]) af Rg rfl (by simp[Pd]) rfl (λ h=>by cases h) Bw rfl) (TL.go' af ?_);simp[hC];apply aq;simp[hC];apply T.ret;refine aa.le (Le.trim [10,11] [3] 4 xr yA) ?_;simp;refine aa.le (Le.nz [] [3]) ?_;apply aa.here;simp[Q7]
 | some x=>
  have tP:trees (x.2.flatMap yI)=true:=ak uj _;refine TL.call Rg rfl rfl (bW.of rfl MY Ws) ?_;refine gW rfl (IJ (c:=.agg (DD x.1 x.2)) af Rg rfl (by simp[Pd]) rfl (λ h=>by cases h)) (TL.go' af ?_);simp[hC,DD];apply aq;simp[hC];apply T.ret;apply aa.here;simp[Tryz.results11,Q7,DD]
def xZ (un:Bool)(d c:Nat):Nat:=if un=true then (if d=0 then 2 else 0) else if c<=d then (if c=1 then 3 else 4) else 0
def Di (u:Un)(s:Sy)(t:Int):Nat×Nat:=match eX s t,j8 u s t with
 | some f,some (.lock un p)=>match u.ms[jl (gv u.ms f) p]? with
  | some x=>if xZ un (ck u.ms s.tb (jl (gv u.ms f) p) t.toNat) (aH x)=0 then (0,0) else (xZ un (ck u.ms s.tb (jl (gv u.ms f) p) t.toNat) (aH x),jl (gv u.ms f) p)
  | none=>(0,0)
 | _,_=>(0,0)
theorem GR {u:Un}{s:Sy}{t:Int}(h:∀ un p,j8 u s t≠some (.lock un p)):Di u s t=(0,0):=by
 unfold Di;split
 .rename_i un p _ h2;exact (h un p h2).elim
 .rfl
theorem Nn {z:In}(h:∀ un p,z≠.lock un p):((qU z == 4)=false)/\((qU z == 5)=false):=by
 cases z with
 | lock un p=>exact (h un p rfl).elim
 | call g t l ps=>cases g<;>exact⟨rfl,rfl⟩
 | _=>exact⟨rfl,rfl⟩
theorem Fx (x:Mx):(x.size=0/\x.re=false/\aH x=1)\/(¬ (x.size=0/\x.re=false)/\aH x=8):=by
 unfold aH;split
 .rename_i h;exact .inl ⟨h.1,h.2,rfl⟩
 .rename_i h;exact .inr ⟨h,rfl⟩
theorem E4 {u:Un}(hu:gg u){k:Nat}{s:Sy}(hs:pK u k s){t:Int}{un:Bool}{p:Pl}(hi:j8 u s t=some (.lock un p)):∃ (n:Nat) (l0:List Fr) (f:Fr) (q:Pr) (xm:Mx),t=n/\eX s t=some f/\s.ts[n]? = some (l0++[f])/\Me u f/\u.ps[f.proc]? = some q/\
  (p.param=true->p.index<(gv u.ms f).bh.length)/\jl (gv u.ms f) p<u.ms.length/\u.ms[jl (gv u.ms f) p]? = some xm/\(aw u).is[eC (aw u).is (gv u.ms f)]? = some (gv u.ms f)/\∃ d:Nat,fL u s n 0=some (d,(l0++[f]).map (p6 u)):=by
 cases ht:eX s t with
 | none=>simp[j8,ht] at hi
 | some f=>
  obtain⟨n,l0,rfl,hl,Tq,_⟩:=nH ht;obtain⟨o1,o2,_,_⟩:=hs.gH hl;obtain⟨q,hq,gQ,W0,SK⟩:=o2.q;simp only[j8,ht,hq] at hi;have Uw:=(hu.pc q (mem_of_getElem? hq)).2 _ (mem_of_getElem? hi);have UC:wM u.ms u.gs.length q.locals q.bh p:=Uw;have Zv:(gv u.ms f).bh.length=q.bh:=by simp[gv,SK]
  have hm:=Kv ((yg hu).1.v _ o2.ic).m Zv UC;obtain⟨x0,hx0⟩:∃ x,u.ms[0]? = some x:=⟨_,getElem?_eq_getElem (by have:=hu.nm;omega)⟩;refine⟨n,l0,f,q,_,rfl,rfl,hl,o2,hq,λ h=>?_,hm,getElem?_eq_getElem hm,Ba o2.ic,min (ck u.ms s.tb 0 n) (aH x0),by simp[fL,hl,hx0]⟩;rw[Zv];rcases UC with h6 | h6
  .exact h6.2.1
  .rw[h] at h6;cases h6.1
theorem GG {u:Un}(hu:gg u){s:Sy}{t:Int}{z:In}(hi:j8 u s t=some z):(iL z).length<=1000/\(iQ z).length<=1000:=by
 unfold j8 at hi;split at hi
 .rename_i f hf;split at hi
  .rename_i q hq;have Uw:=(hu.pc q (mem_of_getElem? hq)).2 _ (mem_of_getElem? hi)
   cases z with
   | call go tg es ps=>
    obtain⟨c1,_,_⟩:=Uw;rw[getElem?_map,Option.map_eq_some_iff] at c1;obtain⟨qq,Wq,c4⟩:=c1;simp only[Prod.mk.injEq] at c4;have:=hu.pr qq (mem_of_getElem? Wq);simp only[iL,iQ];omega
   | _=>simp[iL,iQ]
  .cases hi
 .cases hi
theorem zu {u:Un}(hu:gg u){k:Nat}(hk:k<=1000){s:Sy}(hs:pK u k s)(t:Int):ae prog 10 [cf u,ib (aw u),cU s,I t] (.cF [I (Di u s t).1,I (Di u s t).2]):=by
 obtain⟨h1,h2,h3,h4,h5⟩:=hs.bounds hu hk;have VS:=nC hu;have SF:=zq u s t ⟨h3,h4⟩ hs.frs λ z hz=>GG hu hz;have tG:trees (s.gs.map dg)=true:=aP s.gs;have tT:trees (s.tb.flatMap dN)=true:=ak cm _;have tS:trees (s.ts.flatMap ez)=true:=ak b9 _;have XR:=ak bS (aw u).is;have T8:=jP (aw u).calls;have YT:=aC (aw u).roots;have MY:trees [cf u,cU s,I t]=true:=by
  have:=bm u;simp only[trees,tree,cU,lJ,cf,this,ints,Bool.and_self]
 refine ae.aD af Tryz.func10 rfl Bw (by simp[Tryz.ntmps10]) rfl λ C hC M0=>?_;rw[Tryz.ntmps10] at hC;simp only[cU,lJ,cf,dk,ib,gE,ints,aA] at SF MY |-;apply aq;simp[hC];apply aq;simp[hC];refine cS MY SF ?_
 cases hi:j8 u s t with
 | none=>
  have hz:Di u s t=(0,0):=GR λ un p h=>by rw[hi] at h;cases h
  rw[hz];simp[hC,mY];apply aW;simp[hC];refine T.cond (b:=true) Tt ?_;simp;apply aq;simp[hC];apply T.ret;apply aa.here;simp[Tryz.results10]
 | some z=>
  by_cases Xo:∀ un p,z≠.lock un p
  .have hz:Di u s t=(0,0):=GR λ un p h=>by rw[hi] at h;cases h;exact Xo un p rfl
   obtain⟨n4,n5⟩:=Nn Xo;rw[hz];obtain⟨zc,hzc,hzl⟩:=nW z;obtain⟨c1,c2,c3,c4,c5,c6,c7,c8,c9,c10,c11,rfl⟩:=CU hzl;have n4':(qU z != 4)=true:=by simp only[bne,n4,Bool.not_false]
   have n5':(qU z != 5)=true:=by simp only[bne,n5,Bool.not_false]
   have U4:=px z;rw[hzc] at U4;simp only[all_cons,all_nil,Bool.and_true,Bool.and_eq_true] at U4;obtain⟨_,o1,o2,o3,o4,o5,o6,o7,o8,o9,o10,o11⟩:=U4;simp[hC,mY,hzc];apply aW;simp[hC,n4',n5'];refine T.cond (b:=true) Tt ?_;simp;apply aq;simp[hC];apply T.ret;apply aa.here;simp[Tryz.results10]
  .obtain⟨un,p,rfl⟩:∃ un p,z=.lock un p:=by
    by_cases h:∃ un p,z=.lock un p
    .exact h
    .exact (Xo λ un p e=>h ⟨un,p,e⟩).elim
   obtain⟨n,l0,f,q,xm,rfl,Va,hl,XJ,hq,UC,hm,XU,VB,d0,hpr2⟩:=E4 hu hs hi;have To:Di u s n=if xZ un (ck u.ms s.tb (jl (gv u.ms f) p) n) (aH xm)=0 then (0,0) else (xZ un (ck u.ms s.tb (jl (gv u.ms f) p) n) (aH xm),jl (gv u.ms f) p):=by
    simp only[Di,Va,hi,XU,Int.toNat_natCast]
   rw[To];have VI:((l0++[f]).flatMap ed).drop (l0.length*4)=ed f:=by
    have h6:(l0++[f])[l0.length]? = some f:=by simp
    have h7:=aL (f:=ed) (n:=4) en h6;rw[h7,drop_of_length_le xr];simp
   have UX:=MG hl;have SM:=(List.getElem?_eq_some_iff.1 hl).1;have hPl:(l0++[f]).length=l0.length+1:=by simp
   have VE:=h4 _ (mem_of_getElem? hl);simp only[length_append,length_singleton] at VE;have tP:trees ((l0++[f]).flatMap ed)=true:=ak dc _;obtain⟨q',UH,_,_,hel'⟩:=XJ.q;have hqv':=hu.pr q' (mem_of_getElem? UH);have Vu:=zN hu f yA XJ.el;have tio:trees [cf u,.agg (ed f)]=true:=by
    have:=bm u;simp only[trees,tree,cf,this,dc,Bool.and_self]
   generalize l0++[f]=P at VI hPl tP UX;have VQ:=CH (gv u.ms f) p UC;have tmu:trees [.agg (dW (gv u.ms f)),.agg (iq p)]=true:=by simp only[trees,tree,bS,db,Bool.and_self]
   have X4:=uD u.ms VS s.tb (jl (gv u.ms f) p) n xm XU hs.tb yA λ h hh=>⟨by have:=(hs.hd h hh).1;omega,by have:=hs.ho h hh;omega⟩;have tde:trees [.az (u.ms.flatMap cP) u.ms.length,.az (s.tb.flatMap dN) s.tb.length,I (jl (gv u.ms f) p),I n]=true:=by simp only[trees,tree,Bool.and_self]
   have TR:=aL (f:=cP) (n:=3) mW XU;have hc18:=Fx xm;generalize jl (gv u.ms f) p=mu at *;generalize ck u.ms s.tb mu n=dd at *;obtain⟨i1,i2,i3,hisc,tis2⟩:∃ p ls n,dW (gv u.ms f)=[I p,.az ls n]/\trees ls=true:=⟨_,_,_,rfl,aC _⟩;rw[hisc] at Vu VQ tmu;simp only[cf,dk,ints,aA,ed] at Vu tio VI;obtain⟨p1,p2,p3,p4,gQ,tpc⟩:=pb p;rw[gQ] at VQ tmu;have w1:=cr (l0.length:Int) yA yA;have w2:(((l0.length+1:Nat):Int)-1)=(l0.length:Int):=by omega
   have w3:(l0.length:Int)<(l0.length:Int)+1:=by omega
   generalize UZ:aH xm=cap at *;have hK1:xZ true dd cap=if dd=0 then 2 else 0:=by simp[xZ]
   have hK2:xZ false dd cap=if cap<=dd then (if cap=1 then 3 else 4) else 0:=by simp[xZ]
   simp only[hC,mY,cY,bf,gQ,cons_append,nil_append]
   cases un with
   | true=>
    simp;apply aW;simp[hC];refine T.cond (b:=false) Tt (T.skip ?_);simp;apply aq;simp[hC,SM,UX,ez];refine T.seq (T.rx af follows [0,1,2,3,4,5,6,8,9,7,10,11] [(9,7)] Bw ?_);simp[hC,hPl,w1,w3,VI];refine RX.call rfl rfl rfl rfl rfl tio Vu ?_;simp;refine RX.call rfl rfl rfl rfl rfl tmu VQ ?_;simp;apply aq;simp[hC];refine cS tde X4 ?_;simp[hC];by_cases Xq:dd=0
    .subst Xq;have hK:xZ true 0 cap=2:=by simp[xZ]
     rcases hc18 with ⟨z1,z2,WK⟩ | ⟨z1,hc8⟩
     .repeat first
       | apply T.seq
       | (apply aM;simp[hC,hm,TR,cP,z1,z2])
       | (refine T.cond (b:=false) ?_ ?_;(first | rfl | (simp[ev,assoc];done));simp)
       | (refine T.cond (b:=true) ?_ ?_;(first | rfl | (simp[ev,assoc,hm,TR,cP,z1,z2];done));simp)
       | (apply T.skip;simp)
       | apply T.block
      apply T.ret;apply aa.here;simp[Tryz.results10,hK]
     .by_cases z2:xm.size=0
      .have z3:xm.re=true:=by
        cases hr:xm.re with
        | true=>rfl
        | false=>exact (z1 ⟨z2,hr⟩).elim
       repeat first
        | apply T.seq
        | (apply aM;simp[hC,hm,TR,cP,z2,z3])
        | (refine T.cond (b:=false) ?_ ?_;(first | rfl | (simp[ev,assoc];done));simp)
        | (refine T.cond (b:=true) ?_ ?_;(first | rfl | (simp[ev,assoc,hm,TR,cP,z2,z3];done));simp)
        | (apply T.skip;simp)
        | apply T.block
       apply T.ret;apply aa.here;simp[Tryz.results10,hK]
      .repeat first
        | apply T.seq
        | (apply aM;simp[hC,hm,TR,cP,z2])
        | (refine T.cond (b:=false) ?_ ?_;(first | rfl | (simp[ev,assoc];done));simp)
        | (refine T.cond (b:=true) ?_ ?_;(first | rfl | (simp[ev,assoc,hm,TR,cP,z2];done));simp)
        | (apply T.skip;simp)
        | apply T.block
       apply T.ret;apply aa.here;simp[Tryz.results10,hK]
    .have hK:xZ true dd cap=0:=by simp[xZ,Xq]
     rcases hc18 with ⟨z1,z2,WK⟩ | ⟨z1,hc8⟩
     .repeat first
       | apply T.seq
       | (apply aM;simp[hC,hm,TR,cP,z1,z2,Xq])
       | (refine T.cond (b:=false) ?_ ?_;(first | rfl | (simp[ev,assoc];done));simp)
       | (refine T.cond (b:=true) ?_ ?_;(first | rfl | (simp[ev,assoc,hm,TR,cP,z1,z2,Xq];done));simp)
       | (apply T.skip;simp)
       | apply T.block
      apply T.ret;apply aa.here;simp[Tryz.results10,hK]
     .by_cases z2:xm.size=0
      .have z3:xm.re=true:=by
        cases hr:xm.re with
        | true=>rfl
        | false=>exact (z1 ⟨z2,hr⟩).elim
       repeat first
        | apply T.seq
        | (apply aM;simp[hC,hm,TR,cP,z2,z3,Xq])
        | (refine T.cond (b:=false) ?_ ?_;(first | rfl | (simp[ev,assoc];done));simp)
        | (refine T.cond (b:=true) ?_ ?_;(first | rfl | (simp[ev,assoc,hm,TR,cP,z2,z3,Xq];done));simp)
        | (apply T.skip;simp)
        | apply T.block
       apply T.ret;apply aa.here;simp[Tryz.results10,hK]
      .repeat first
        | apply T.seq
        | (apply aM;simp[hC,hm,TR,cP,z2,Xq])
        | (refine T.cond (b:=false) ?_ ?_;(first | rfl | (simp[ev,assoc];done));simp)
        | (refine T.cond (b:=true) ?_ ?_;(first | rfl | (simp[ev,assoc,hm,TR,cP,z2,Xq];done));simp)
        | (apply T.skip;simp)
        | apply T.block
       apply T.ret;apply aa.here;simp[Tryz.results10,hK]
   | false=>
    simp;apply aW;simp[hC];refine T.cond (b:=false) Tt (T.skip ?_);simp;apply aq;simp[hC,SM,UX,ez];refine T.seq (T.rx af follows [0,1,2,3,4,5,6,8,9,7,10,11] [(9,7)] Bw ?_);simp[hC,hPl,w1,w3,VI];refine RX.call rfl rfl rfl rfl rfl tio Vu ?_;simp;refine RX.call rfl rfl rfl rfl rfl tmu VQ ?_;simp;apply aq;simp[hC];refine cS tde X4 ?_;simp[hC];rcases hc18 with ⟨z1,z2,WK⟩ | ⟨z1,hc8⟩
    .subst WK;by_cases Xq:dd=0
     .subst Xq;have hK:xZ false 0 1=0:=by simp[xZ]
      repeat first
       | apply T.seq
       | (apply aM;simp[hC,hm,TR,cP,z1,z2])
       | (refine T.cond (b:=false) ?_ ?_;(first | rfl | (simp[ev,assoc,hm,TR,cP,z1,z2];done));simp)
       | (refine T.cond (b:=true) ?_ ?_;(first | rfl | (simp[ev,assoc,hm,TR,cP,z1,z2];done));simp)
       | (apply T.skip;simp)
       | apply T.block
      apply T.ret;apply aa.here;simp[Tryz.results10,hK]
     .have Tz:0<dd:=by omega
      have hK:xZ false dd 1=3:=by simp[xZ];omega
      repeat first
       | apply T.seq
       | (apply aM;simp[hC,hm,TR,cP,z1,z2,Tz])
       | (refine T.cond (b:=false) ?_ ?_;(first | rfl | (simp[ev,assoc];done));simp)
       | (refine T.cond (b:=true) ?_ ?_;(first | rfl | (simp[ev,assoc,hm,TR,cP,z1,z2,Tz];done));simp)
       | (apply T.skip;simp)
       | apply T.block
      apply T.ret;apply aa.here;simp[Tryz.results10,hK]
    .subst hc8;by_cases hd8:8<=dd
     .have Tz:(8:Int)<=(dd:Int):=by omega
      have hK:xZ false dd 8=4:=by simp[xZ];omega
      by_cases z2:xm.size=0
      .have z3:xm.re=true:=by
        cases hr:xm.re with
        | true=>rfl
        | false=>exact (z1 ⟨z2,hr⟩).elim
       repeat first
        | apply T.seq
        | (apply aM;simp[hC,hm,TR,cP,z2,z3,Tz])
        | (refine T.cond (b:=false) ?_ ?_;(first | rfl | (simp[ev,assoc];done));simp)
        | (refine T.cond (b:=true) ?_ ?_;(first | rfl | (simp[ev,assoc,hm,TR,cP,z2,z3,Tz];done));simp)
        | (apply T.skip;simp)
        | apply T.block
       apply T.ret;apply aa.here;simp[Tryz.results10,hK]
      .repeat first
        | apply T.seq
        | (apply aM;simp[hC,hm,TR,cP,z2,Tz])
        | (refine T.cond (b:=false) ?_ ?_;(first | rfl | (simp[ev,assoc];done));simp)
        | (refine T.cond (b:=true) ?_ ?_;(first | rfl | (simp[ev,assoc,hm,TR,cP,z2,Tz];done));simp)
        | (apply T.skip;simp)
        | apply T.block
       apply T.ret;apply aa.here;simp[Tryz.results10,hK]
     .have Tz:¬ (8:Int)<=(dd:Int):=by omega
      have hK:xZ false dd 8=0:=by simp[xZ];omega
      by_cases z2:xm.size=0
      .have z3:xm.re=true:=by
        cases hr:xm.re with
        | true=>rfl
        | false=>exact (z1 ⟨z2,hr⟩).elim
       repeat first
        | apply T.seq
        | (apply aM;simp[hC,hm,TR,cP,z2,z3,Tz])
        | (refine T.cond (b:=false) ?_ ?_;(first | rfl | (simp[ev,assoc,hm,TR,cP,z2,z3,Tz];done));simp)
        | (refine T.cond (b:=true) ?_ ?_;(first | rfl | (simp[ev,assoc,hm,TR,cP,z2,z3,Tz];done));simp)
        | (apply T.skip;simp)
        | apply T.block
       apply T.ret;apply aa.here;simp[Tryz.results10,hK]
      .repeat first
        | apply T.seq
        | (apply aM;simp[hC,hm,TR,cP,z2,Tz])
        | (refine T.cond (b:=false) ?_ ?_;(first | rfl | (simp[ev,assoc,hm,TR,cP,z2,Tz];done));simp)
        | (refine T.cond (b:=true) ?_ ?_;(first | rfl | (simp[ev,assoc,hm,TR,cP,z2,Tz];done));simp)
        | (apply T.skip;simp)
        | apply T.block
       apply T.ret;apply aa.here;simp[Tryz.results10,hK]
theorem E6 (ms:List Mx)(tb:List Ho)(e t:Nat):(fM ms tb e t).1.length=tb.length:=by
 unfold fM;split
 .split<;>simp
 .rfl
theorem Ak (ms:List Mx)(tb:List Ho)(e t:Nat):(dt ms tb e t).1.length=tb.length:=by
 unfold dt;split
 .split<;>simp
 .rfl
theorem syv_b {u:Un}(hu:gg u){k:Nat}(hk:k<=1000){s:Sy}(hs:pK u k s):Hj s:=by
 obtain⟨h1,h2,h3,h4,h5⟩:=hs.bounds hu hk;refine⟨h1,h2,h3,λ l hl=>⟨h4 l hl,λ f hf=>?_⟩⟩;obtain⟨q,hq,gQ,W0,SK⟩:=(hs.fr l hl f hf).q;have hqv:=hu.pr q (mem_of_getElem? hq);omega
theorem HS {u:Un}(hu:gg u){k:Nat}(hk:k<=1000){s:Sy}(hs:pK u k s)(hr:D7 s)(t:Int) :
  ae prog 14 [cf u,cU s,I t] (.cF [cU (gr u s t).1,.bool (gr u s t).2]):=by
 obtain⟨h1,h2,h3,h4,h5⟩:=hs.bounds hu hk;have Up:=hs.frs;have XB:=syv_b hu hk hs;have SF:=zq u s t ⟨h3,h4⟩ Up λ z hz=>GG hu hz;unfold gr
 cases ht:eX s t with
 | none=>
  have VU:j8 u s t=none:=by simp[j8,ht]
  rw[VU] at SF;exact EJ u s t XB SF
 | some f=>
  obtain⟨n,l0,rfl,hl,Tq,hd⟩:=nH ht;obtain⟨o1,o2,o3,o4⟩:=hs.gH hl;obtain⟨q,hq,gQ,W0,SK⟩:=o2.q;obtain⟨i,hi⟩:∃ i,q.code[f.pc]? = some i:=⟨_,getElem?_eq_getElem gQ⟩;have VU:j8 u s n=some i:=by simp[j8,ht,hq,hi]
  rw[VU] at SF;obtain⟨h6,h7⟩:=h5 _ (mem_of_getElem? hl) f xr;have Uw:=(hu.pc q (mem_of_getElem? hq)).2 i (mem_of_getElem? hi);have hqv:=hu.pr q (mem_of_getElem? hq);rw[<- hs.gs,<- W0,<- SK] at Uw;have VS:=nC hu;have ZY:=HZ u.ms;have Tz:∀ h∈s.tb,h.d<=1000000/\(h.o≠0->0<h.d):=λ h hh=>by
   have:=hs.hd h hh;exact⟨by omega,this.2⟩
  have V9:∀ h∈s.tb,h.o<=1000000:=λ h hh=>by
   have:=hs.ho h hh;omega
  have Tu:=hu.nm;have Yp:∀ p:Pl,wM u.ms s.gs.length f.aV.length f.eD.length p->p.index<=1000000:=λ p hp=>by
   rcases hp with ⟨_,h,_⟩ | ⟨_,m,h,_⟩
   .omega
   .have:=(List.getElem?_eq_some_iff.1 h).1;omega
  have hnt:=(List.getElem?_eq_some_iff.1 hl).1;simp only[VU,Int.toNat_natCast,hd]
  cases i with
  | set k' gl e=>
   obtain⟨e1,e2,e3,e4,e5,YJ,tec⟩:=gf e;exact Cj u s _ n true (.set k' gl e) 1 k' e1 e2 0 gl false e3 e4 [] [] [] e5 0 0 0 (by simp[cY,YJ,oE]) (.inl rfl) SF (Ni s n l0 f k' gl e Uw.1 Uw.2 hl Tq XB hr h7)
  | branch g e=>
   obtain⟨e1,e2,e3,e4,e5,YJ,tec⟩:=gf e;exact Cj u s _ n true (.branch g e) 6 g e1 e2 0 false false e3 e4 [] [] [] e5 0 0 0 (by simp[cY,YJ,oE]) (.inr rfl) SF (Qn s n l0 f g e Uw.2 hl Tq XB hr h7)
  | jump g=>exact EK u s n l0 f g SF hl Tq XB h7
  | ret=>exact HR u s n l0 f SF hl Tq XB
  | lock un p=>
   have UC:wM u.ms s.gs.length f.aV.length f.eD.length p:=Uw;obtain⟨j,hj⟩:=kB u s n p VS f ht UC;have hn:bV u s n p=((j:Int),(bV u s n p).2):=by rw[<- hj]
   have YI:(bV u s n p).2=0->j<(bT u.ms).length:=λ h0=>(kA hu ht o2 UC (by rw[hn,h0])).1;obtain⟨p1,p2,p3,p4,Yt,tpc⟩:=pb p
   cases un with
   | true=>
    have hh:=Cp u s n l0 f p true j (bV u s n p).2 (dt u.ms s.tb j n).1 (dt u.ms s.tb j n).2 hn VS (Yp p UC) UC (λ h0=>EH u.ms s.tb j n (YI h0) hs.tb yA h2 Tz V9) (Ak _ _ _ _) hl Tq XB hr h7;have he:NY s n l0 f true (bV u s n p).2 (dt u.ms s.tb j n).1 (dt u.ms s.tb j n).2=OL u s n l0 f p:=by simp[NY,OL,hj]
    rw[he] at hh;exact Ci u s _ n _ (.lock true p) 5 0 0 0 p2 false p1 eS [] p3 [] [] 0 p4 0 0 (by simp[cY,Yt,bf]) (.inr rfl) SF hh
   | false=>
    have hh:=Cp u s n l0 f p false j (bV u s n p).2 (fM u.ms s.tb j n).1 (fM u.ms s.tb j n).2 hn VS (Yp p UC) UC (λ h0=>J9 u.ms VS s.tb j n (YI h0) hs.tb ZY yA h2 (λ h hh=>(Tz h hh).1) V9) (E6 _ _ _ _) hl Tq XB hr h7;have he:NY s n l0 f false (bV u s n p).2 (fM u.ms s.tb j n).1 (fM u.ms s.tb j n).2=OY u s n l0 f p:=by simp[NY,OY,hj]
    rw[he] at hh;exact Ci u s _ n _ (.lock false p) 4 0 0 0 p2 false p1 eS [] p3 [] [] 0 p4 0 0 (by simp[cY,Yt,bf]) (.inl rfl) SF hh
  | call go tg es ps=>
   obtain⟨c1,c2,c3⟩:=Uw;rw[getElem?_map,Option.map_eq_some_iff] at c1;obtain⟨qq,Wq,c4⟩:=c1;simp only[Prod.mk.injEq] at c4;have hqv2:=hu.pr qq (mem_of_getElem? Wq);have Zu:uI u tg=qq.locals:=by simp only[uI,Wq]
   have c5:∀ p∈ps,p.index<=1000000/\wM u.ms s.gs.length f.aV.length f.eD.length p:=λ p hp=>⟨Yp p (c3 p hp),c3 p hp⟩
   cases go with
   | true=>
    have hh:=Ql u s n l0 f true tg es ps qq VS Wq c2 yA c5 yA yA yA hl Tq XB hr h7 rfl;simp only[fj,if_true,Zu];exact Ck u s _ n true (.call true tg es ps) 3 tg 0 0 0 false false eS [] [] _ _ 0 0 _ _ (by simp[cY,bf,oE];exact⟨⟨rfl,rfl⟩,rfl,rfl⟩) (.inr rfl) SF hh
   | false=>
    have hh:=Kf u s n l0 f false tg es ps qq VS Wq c2 yA c5 yA yA yA hl Tq XB hr h7 rfl;simp only[fj,Bool.false_eq_true,if_false,Zu];exact Ck u s _ n true (.call false tg es ps) 2 tg 0 0 0 false false eS [] [] _ _ 0 0 _ _ (by simp[cY,bf,oE];exact⟨⟨rfl,rfl⟩,rfl,rfl⟩) (.inl rfl) SF hh
theorem OT:oR 0:=by unfold oR;omega
theorem Qy {u:Un}(hu:gg u):D7 (qv u):=by
 refine⟨λ n hn=>?_,λ l hl f hf n hn=>?_⟩
 .have:=hu.gi n hn;unfold oR;omega
 .simp only[qv,mem_singleton] at hl;subst hl;rw[mem_singleton] at hf;subst hf;rw[eq_of_mem_replicate hn];exact OT
theorem kg {s:Sy}(hr:D7 s){t:Nat}{L:List Fr}{gs:List Int}{tb:List Ho}{fa:Nat}(hg:∀ n∈gs,oR n)(hL:∀ f∈L,∀ n∈f.aV,oR n):D7 { gs:=gs,tb:=tb,ts:=s.ts.set t L,fault:=fa }:=by
 refine⟨hg,λ l hl=>?_⟩;rcases mem_or_eq_of_mem_set hl with h | h
 .exact hr.vs l h
 .subst h;exact hL
theorem Dh {gs ls:List Int}(hg:∀ n∈gs,oR n)(hl:∀ n∈ls,oR n):∀ es:List Ex,(∀ e∈es,vF gs.length ls.length e)->∀ n∈(df gs ls es).1,oR n
 | [],_,n,h=>by simp[df] at h
 | e::r,he,n,h=>by
  rw[df] at h;split at h
  .rcases mem_cons.1 h with rfl | h
   .exact uO hg hl (he e mem_cons_self)
   .exact Dh hg hl r (λ x hx=>he x (mem_cons_of_mem _ hx)) n h
  .simp at h
theorem MM {u:Un}(hu:gg u){k:Nat}{s:Sy}(hs:pK u k s)(hr:D7 s)(t:Int):D7 (gr u s t).1:=by
 have same:∀ tb fa,D7 { gs:=s.gs,tb:=tb,ts:=s.ts,fault:=fa }:=λ _ _=>⟨hr.gs,hr.vs⟩;unfold gr;split
 .exact hr
 .rename_i f hf;split
  .exact hr
  .rename_i i hi;obtain⟨n,l0,rfl,hl,_,hd⟩:=nH hf;obtain⟨q,hq,gQ,W0,SK⟩:=(hs.gH hl).2.1.q;simp only[j8,hf,hq] at hi;rw[Int.toNat_natCast,hd];have Uw:=(hu.pc q (mem_of_getElem? hq)).2 i (mem_of_getElem? hi);rw[<- hs.gs,<- W0,<- SK] at Uw;have hlv:=hr.vs _ (mem_of_getElem? hl);have h0:∀ g∈l0,∀ n∈g.aV,oR n:=λ g hg=>hlv g (by simp[hg]);have h1:∀ n∈f.aV,oR n:=hlv f xr;have hL:∀ pc,∀ g∈l0++[{ f with pc:=pc }],∀ n∈g.aV,oR n:=λ pc g hg=>by
    rcases mem_append.1 hg with h | h
    .exact h0 g h
    .rw[mem_singleton] at h;subst h;exact h1
   cases i with
   | set k' gl e=>
    have hv:=uO hr.gs h1 Uw.2;simp only[fj,OO];split
    .split
     .refine kg hr (λ n hn=>?_) (hL _);rcases mem_or_eq_of_mem_set hn with h | h
      .exact hr.gs n h
      .subst h;exact hv
     .refine kg hr hr.gs λ g hg n hn=>?_;rcases mem_append.1 hg with h | h
      .exact h0 g h n hn
      .rw[mem_singleton] at h;subst h;rcases mem_or_eq_of_mem_set hn with h | h
       .exact h1 n h
       .subst h;exact hv
    .exact same _ _
   | branch g e=>
    simp only[fj,Pp];split
    .exact kg hr hr.gs (hL _)
    .exact same _ _
   | jump g=>exact kg hr hr.gs (hL _)
   | ret=>exact kg hr hr.gs h0
   | lock un p=>
    simp only[fj];split
    .simp only[OL];split
     .split
      .exact kg hr hr.gs (hL _)
      .exact same _ _
     .exact same _ _
    .simp only[OY];split
     .split
      .exact kg hr hr.gs (hL _)
      .exact hr
     .exact same _ _
   | call go tg es ps=>
    obtain⟨c1,c2,c3⟩:=Uw;have he:=Dh hr.gs h1 es c2;have ha:(ny u s n f tg (uI u tg) es ps).2=0->∀ m∈(ny u s n f tg (uI u tg) es ps).1.aV,oR m:=λ _ m hm=>by
     unfold ny at hm;split at hm
     .split at hm
      .rcases mem_append.1 hm with h | h
       .exact he m h
       .rw[eq_of_mem_replicate h];exact OT
      .exact he m hm
     .exact he m hm
    simp only[fj];split
    .simp only[O8];split
     .rename_i h;split
      .exact same _ _
      .refine⟨hr.gs,λ l TO=>?_⟩;rcases mem_append.1 TO with h2 | h2
       .exact (kg (tb:=s.tb) (fa:=0) hr hr.gs (hL (f.pc+1))).vs l h2
       .rw[mem_singleton] at h2;subst h2;intro g hg;rw[mem_singleton] at hg;subst hg;exact ha h
     .exact same _ _
    .simp only[Po];split
     .rename_i h;refine kg hr hr.gs λ g hg m hm=>?_;rcases mem_append.1 hg with h2 | h2
      .exact h0 g h2 m hm
      .rcases mem_cons.1 h2 with h2 | h2
       .subst h2;exact h1 m hm
       .rw[mem_singleton] at h2;subst h2;exact ha h m hm
     .exact same _ _
end Go.Proofs.YtlkmbdfhdknlgaaGreat
namespace Go.aK
open Go.Can List
theorem lZ (p:Nat->Prop):∀ n:Nat,∃ x,x<2 ^ n/\∀ e,e<n->(x.testBit e=true↔p e)
 | 0=>⟨0,by simp,λ e h=>by omega⟩
 | n+1=>by
  obtain⟨x,hx,hb⟩:=lZ p n;by_cases h:p n
  .refine⟨2 ^ n+x,by rw[Nat.pow_succ];omega,λ e he=>?_⟩;by_cases h2:e=n
   .subst h2;rw[Nat.testBit_two_pow_add_eq,Nat.testBit_lt_two_pow hx];simp[h]
   .rw[Nat.testBit_two_pow_add_gt yA];exact hb e yA
  .refine⟨x,by rw[Nat.pow_succ];omega,λ e he=>?_⟩;by_cases h2:e=n
   .subst h2;rw[Nat.testBit_lt_two_pow hx];simp[h]
   .exact hb e yA
noncomputable def lU (L:Nat) (p:Nat->Prop):Nat:=Classical.choose (lZ p (L+1))
theorem pt (L:Nat)(p:Nat->Prop):lU L p<2 ^ (L+1):=(Classical.choose_spec (lZ p (L+1))).1
theorem p7 {L:Nat}{p:Nat->Prop}{e:Nat}(h:e<=L):((lU L p).testBit e=true↔p e):=(Classical.choose_spec (lZ p (L+1))).2 e yA
theorem Fz {L x e:Nat}(hx:x<2 ^ (L+1))(h:x.testBit e=true):e<=L:=by
 by_cases h2:e<=L
 .exact h2
 .have h3:x<2 ^ e:=Nat.lt_of_lt_of_le hx (Nat.pow_le_pow_right yA yA);rw[Nat.testBit_lt_two_pow h3] at h;cases h
theorem Gz {L x:Nat}{p:Nat->Prop}(hx:x<2 ^ (L+1))(h:∀ e,e<=L->(x.testBit e=true↔p e)):x=lU L p:=by
 refine Nat.eq_of_testBit_eq λ i=>?_;by_cases hi:i<=L
 .have h1:=h i hi;have h2:=p7 (p:=p) hi;cases hb:x.testBit i<;>cases hc:(lU L p).testBit i<;>simp_all
 .have h3:∀ y,y<2 ^ (L+1)->y.testBit i=false:=λ y hy=>Nat.testBit_lt_two_pow (Nat.lt_of_lt_of_le hy (Nat.pow_le_pow_right yA yA));rw[h3 x hx,h3 _ (pt L p)]
def bM (r:List Nat)(d e:Nat):Bool:=(r.getD d 0).testBit e
def gP (t:List (List Nat))(p d e:Nat):Bool:=bM (t.getD p []) d e
structure wK (L:Nat)(r:List Nat):Prop where
 len:r.length=L+1
 lt:∀ s∈r,s<2 ^ (L+1)
theorem oq {L:Nat}{r:List Nat}(h:wK L r){d e:Nat}(hb:bM r d e=true):d<=L/\e<=L:=by
 unfold bM at hb;rw[getD_eq_getElem?_getD] at hb
 cases hx:r[d]? with
 | none=>rw[hx] at hb;simp at hb
 | some s=>
  rw[hx] at hb;have h1:=(List.getElem?_eq_some_iff.1 hx).1;have h2:=h.len;exact⟨by omega,Fz (h.lt s (mem_of_getElem? hx)) hb⟩
theorem FP {L:Nat}{a b:List Nat}(ha:wK L a)(hb:wK L b)(h:∀ d e,d<=L->e<=L->bM a d e=bM b d e):a=b:=by
 refine ext_getElem? λ d=>?_;by_cases hd:d<=L
 .obtain⟨x,hx⟩:∃ x,a[d]? = some x:=⟨_,getElem?_eq_getElem (by have:=ha.len;omega)⟩;obtain⟨y,hy⟩:∃ y,b[d]? = some y:=⟨_,getElem?_eq_getElem (by have:=hb.len;omega)⟩;rw[hx,hy];congr 1;refine Nat.eq_of_testBit_eq λ e=>?_;by_cases he:e<=L
  .have:=h d e hd he
   simpa [bM,getD_eq_getElem?_getD,hx,hy] using this
  .have h3:∀ z,z<2 ^ (L+1)->z.testBit e=false:=λ z hz=>Nat.testBit_lt_two_pow (Nat.lt_of_lt_of_le hz (Nat.pow_le_pow_right yA yA));rw[h3 x (ha.lt x (mem_of_getElem? hx)),h3 y (hb.lt y (mem_of_getElem? hy))]
 .rw[getElem?_eq_none (by have:=ha.len;omega),getElem?_eq_none (by have:=hb.len;omega)]
def FG:List Nat->Nat->Nat->Nat
 | [],_,_=>0
 | s::r,x,d=>(if x.testBit d=true then s else 0) ||| FG r x (d+1)
def Ac (r:List Nat)(x:Nat):Nat:=FG r x 0
theorem Hh:∀ (r:List Nat) (x d e:Nat),(FG r x d).testBit e=true↔∃ k,x.testBit (d+k)=true/\bM r k e=true
 | [],x,d,e=>by simp[FG,bM]
 | s::r,x,d,e=>by
  rw[FG,Nat.testBit_or,Bool.or_eq_true,Hh r x (d+1) e];constructor
  .rintro (h | ⟨k,h1,h2⟩)
   .split at h
    .rename_i hx;exact⟨0,hx,by simpa [bM] using h⟩
    .simp at h
   .exact⟨k+1,by rw[show d+(k+1)=d+1+k by omega];exact h1,by simpa [bM] using h2⟩
  .rintro⟨k,h1,h2⟩
   cases k with
   | zero=>
    left;rw[Nat.add_zero] at h1;rw[if_pos h1]
    simpa [bM] using h2
   | succ k=>exact .inr ⟨k,by rw[show d+1+k=d+(k+1) by omega];exact h1,by simpa [bM] using h2⟩
theorem Hg (r:List Nat)(x e:Nat):(Ac r x).testBit e=true↔∃ k,x.testBit k=true/\bM r k e=true:=by
 rw[Ac,Hh];simp
theorem Bz {L:Nat}:∀ (r:List Nat) (x d:Nat),(∀ s∈r,s<2 ^ (L+1))->FG r x d<2 ^ (L+1)
 | [],_,_,_=>by simp[FG];exact Nat.two_pow_pos _
 | s::r,x,d,h=>by
  rw[FG];refine Nat.or_lt_two_pow ?_ (Bz r x (d+1) λ y hy=>h y (mem_cons_of_mem _ hy));split
  .exact h s mem_cons_self
  .exact Nat.two_pow_pos _
def qy (a b:List Nat):List Nat:=a.map (Ac b)
def lI (a b:List Nat):List Nat:=zipWith (· ||| ·) a b
def yJ (a b:List Nat):Bool:=(zipWith (λ x y=>decide (x ||| y=y)) a b).all id
def nK (L:Nat)(c:Int):List Nat:=(range (L+1)).map λ d:Nat=>if 0<=(d:Int)+c/\(d:Int)+c<=L then 2 ^ ((d:Int)+c).toNat else 0
theorem ye {L:Nat}{a b:List Nat}(ha:wK L a)(hb:wK L b):wK L (qy a b):=by
 refine⟨by simp[qy,ha.len],λ s hs=>?_⟩;simp only[qy,mem_map] at hs;obtain⟨x,_,rfl⟩:=hs;exact Bz b x 0 hb.lt
theorem wD (a b:List Nat)(d e:Nat):bM (qy a b) d e=true↔∃ k,bM a d k=true/\bM b k e=true:=by
 unfold bM qy;rw[getD_eq_getElem?_getD,getElem?_map]
 cases hx:a[d]? with
 | none=>simp[getD_eq_getElem?_getD,hx]
 | some x=>
  simp only[Option.map_some,Option.getD_some];rw[Hg];simp[getD_eq_getElem?_getD,hx,bM]
theorem Jk {L:Nat}{a b:List Nat}(ha:wK L a)(hb:wK L b):wK L (lI a b):=by
 refine⟨by simp[lI,ha.len,hb.len],λ s hs=>?_⟩;simp only[lI] at hs;obtain⟨i,hi⟩:=mem_iff_getElem?.1 hs;rw[getElem?_zipWith] at hi
 cases hx:a[i]? with
 | none=>rw[hx] at hi;simp at hi
 | some x=>
  cases hy:b[i]? with
  | none=>rw[hx,hy] at hi;simp at hi
  | some y=>
   rw[hx,hy] at hi;simp at hi;subst hi;exact Nat.or_lt_two_pow (ha.lt x (mem_of_getElem? hx)) (hb.lt y (mem_of_getElem? hy))
theorem FU {a b:List Nat}(h:a.length=b.length)(d e:Nat):bM (lI a b) d e=(bM a d e || bM b d e):=by
 unfold bM lI;rw[getD_eq_getElem?_getD,getElem?_zipWith,getD_eq_getElem?_getD,getD_eq_getElem?_getD];by_cases hd:d<a.length
 .rw[getElem?_eq_getElem hd,getElem?_eq_getElem yA];simp[Nat.testBit_or]
 .rw[getElem?_eq_none yA,getElem?_eq_none yA];simp
theorem or_self_iff (x y:Nat):x ||| y=y↔∀ e,x.testBit e=true->y.testBit e=true:=by
 constructor
 .intro h e he;rw[<- h,Nat.testBit_or,he];rfl
 .intro h;refine Nat.eq_of_testBit_eq λ e=>?_;rw[Nat.testBit_or];have:=h e;cases hx:x.testBit e<;>cases hy:y.testBit e<;>simp_all
theorem p9 {a b:List Nat}(h:a.length=b.length):yJ a b=true↔∀ d e,bM a d e=true->bM b d e=true:=by
 unfold yJ;rw[all_eq_true];constructor
 .intro h1 d e hb;unfold bM at hb |-;rw[getD_eq_getElem?_getD] at hb |-;by_cases hd:d<a.length
  .rw[getElem?_eq_getElem hd] at hb;rw[getElem?_eq_getElem yA];simp only[Option.getD_some] at hb |-;have h2:=h1 (decide (a[d] ||| b[d]'yA=b[d]'yA)) (mem_iff_getElem?.2 ⟨d,by rw[getElem?_zipWith,getElem?_eq_getElem hd,getElem?_eq_getElem yA]⟩);simp only[id,decide_eq_true_eq] at h2;exact (or_self_iff _ _).1 h2 e hb
  .rw[getElem?_eq_none yA] at hb;simp at hb
 .intro h1 z hz;obtain⟨d,hd⟩:=mem_iff_getElem?.1 hz;rw[getElem?_zipWith] at hd
  cases hx:a[d]? with
  | none=>rw[hx] at hd;simp at hd
  | some x=>
   cases hy:b[d]? with
   | none=>rw[hx,hy] at hd;simp at hd
   | some y=>
    rw[hx,hy] at hd;simp at hd;subst hd;simp only[id,decide_eq_true_eq];refine (or_self_iff x y).2 λ e he=>?_;have h2:=h1 d e;simp only[bM,getD_eq_getElem?_getD,hx,hy,Option.getD_some] at h2;exact h2 he
theorem JL (L:Nat)(c:Int):wK L (nK L c):=by
 refine⟨by simp[nK],λ s hs=>?_⟩;simp only[nK,mem_map] at hs;obtain⟨d,_,rfl⟩:=hs;split
 .exact Nat.pow_lt_pow_right yA yA
 .exact Nat.two_pow_pos _
theorem vZ (L:Nat)(c:Int)(d e:Nat):bM (nK L c) d e=true↔d<=L/\e<=L/\(e:Int)=d+c:=by
 unfold bM nK;rw[getD_eq_getElem?_getD,getElem?_map];by_cases hd:d<L+1
 .rw[getElem?_eq_getElem (by simpa using hd)];simp only[getElem_range,Option.map_some,Option.getD_some];split
  .rename_i h;rw[Nat.testBit_two_pow,decide_eq_true_eq];omega
  .rename_i h;simp;omega
 .rw[getElem?_eq_none (by simpa using hd)];simp;omega
def rX (L:Nat):List Nat:=replicate (L+1) 0
theorem D9 (L:Nat):wK L (rX L):=⟨by simp[rX],λ s hs=>by rw[eq_of_mem_replicate hs];exact Nat.two_pow_pos _⟩
theorem vU (L d e:Nat):bM (rX L) d e=false:=by
 unfold bM rX;rw[getD_eq_getElem?_getD,getElem?_replicate];split<;>simp
def bits (x:Nat):Nat:=(range 9).countP λ e=>x.testBit e
def eK (r:List Nat):Nat:=(r.map bits).sum
theorem Ou (x:Nat):bits x<=9:=by
 have:=countP_le_length (p:=λ e=>x.testBit e) (l:=range 9)
 simpa [bits] using this
theorem oc {α:Type}{p q:α->Bool}:∀ l:List α,(∀ x∈l,p x=true->q x=true)->l.countP p<=l.countP q
 | [],_=>by simp
 | a::l,h=>by
  have h1:=oc l λ x hx=>h x (mem_cons_of_mem _ hx);have h2:=h a mem_cons_self;rw[countP_cons,countP_cons];cases ha:p a<;>cases hb:q a<;>simp_all<;>omega
theorem yc {α:Type}{p q:α->Bool}:∀ l:List α,(∀ x∈l,p x=true->q x=true)->(∃ x∈l,p x=false/\q x=true)->l.countP p<l.countP q
 | [],_,h=>by obtain⟨x,hx,_⟩:=h;cases hx
 | a::l,h,h'=>by
  have h0:=oc l λ x hx=>h x (mem_cons_of_mem _ hx);have h2:=h a mem_cons_self;rw[countP_cons,countP_cons];obtain⟨x,hx,hp,hq⟩:=h';rcases mem_cons.1 hx with rfl | hx
  .simp[hp,hq];omega
  .have h1:=yc l (λ x hx=>h x (mem_cons_of_mem _ hx)) ⟨x,hx,hp,hq⟩;cases ha:p a<;>cases hb:q a<;>simp_all<;>omega
theorem z5 {x y:Nat}(h:∀ e,x.testBit e=true->y.testBit e=true):bits x<=bits y:=oc _ λ e _=>h e
theorem Ha {x y:Nat}(h:∀ e,x.testBit e=true->y.testBit e=true){e:Nat}(he:e<=8)(h1:x.testBit e=false)(h2:y.testBit e=true):bits x<bits y:=
 yc _ (λ e _=>h e) ⟨e,mem_range.2 yA,h1,h2⟩
theorem tv:∀ r:List Nat,eK r<=9*r.length
 | []=>by simp[eK]
 | x::r=>by
  have h1:=Ou x;have h2:=tv r;simp only[eK,map_cons,sum_cons,length_cons] at h2 |-;omega
theorem yn:∀ (a b:List Nat),a.length=b.length->(∀ d e,bM a d e=true->bM b d e=true)->eK a<=eK b
 | [],b,_,_=>by simp[eK]
 | x::a,[],h,_=>by simp at h
 | x::a,y::b,h,hb=>by
  have h1:=yn a b UA λ d e hd=>by simpa [bM] using hb (d+1) e (by simpa [bM] using hd)
  have h2:=z5 (x:=x) (y:=y) λ e he=>by simpa [bM] using hb 0 e (by simpa [bM] using he)
  simp only[eK,map_cons,sum_cons] at h1 |-;omega
theorem yo:∀ (a b:List Nat),a.length=b.length->(∀ d e,bM a d e=true->bM b d e=true)->(∃ d e,e<=8/\bM a d e=false/\bM b d e=true)->eK a<eK b
 | [],b,h,_,h'=>by
  obtain⟨d,e,_,_,h2⟩:=h';have:b=[]:=length_eq_zero_iff.1 h.symm;subst this;simp[bM] at h2
 | x::a,[],h,_,_=>by simp at h
 | x::a,y::b,h,hb,h'=>by
  have h1:=yn a b UA λ d e hd=>by simpa [bM] using hb (d+1) e (by simpa [bM] using hd)
  have h2:=z5 (x:=x) (y:=y) λ e he=>by simpa [bM] using hb 0 e (by simpa [bM] using he)
  simp only[eK,map_cons,sum_cons] at h1 |-;obtain⟨d,e,he,h3,h4⟩:=h'
  cases d with
  | zero=>
   have:=Ha (x:=x) (y:=y) (λ e he=>by simpa [bM] using hb 0 e (by simpa [bM] using he)) he (by simpa [bM] using h3) (by simpa [bM] using h4);omega
  | succ d=>
   have:=yo a b UA (λ d e hd=>by simpa [bM] using hb (d+1) e (by simpa [bM] using hd)) ⟨d,e,he,by simpa [bM] using h3,by simpa [bM] using h4⟩;simp only[eK] at this;omega
def fQ (t:List (List Nat)):Nat:=(t.map eK).sum
theorem uY:∀ (t:List (List Nat)) (i:Nat) (a b:List Nat),t[i]? = some a->fQ (t.set i b)+eK a=fQ t+eK b
 | [],i,a,b,h=>by simp at h
 | x::t,0,a,b,h=>by
  simp at h;subst h;simp[fQ];omega
 | x::t,i+1,a,b,h=>by
  have:=uY t i a b UA;simp only[fQ,set_cons_succ,map_cons,sum_cons] at this |-;omega
theorem tu {L:Nat}:∀ t:List (List Nat),(∀ r∈t,wK L r)->fQ t<=(9*(L+1))*t.length
 | [],_=>by simp[fQ]
 | r::t,h=>by
  have h1:=tv r;rw[(h r mem_cons_self).len] at h1;have h2:=tu t λ x hx=>h x (mem_cons_of_mem _ hx);simp only[fQ,map_cons,sum_cons,length_cons,Nat.mul_add] at h2 |-;omega
theorem Rs {x:Nat}(h:x<2 ^ 63):IntKind.i64.wrap (x:Int)=x:=IntWalk.i64_in _ ⟨by omega,by omega⟩
def D5 (a b:Nat):Nat:=a ^^^ (a &&& b)
theorem wB (a b e:Nat):(D5 a b).testBit e=(a.testBit e && !b.testBit e):=by
 rw[D5,Nat.testBit_xor,Nat.testBit_and];cases a.testBit e<;>cases b.testBit e<;>rfl
theorem Lv {a b:Nat}(h:a<2 ^ 63):D5 a b<2 ^ 63:=Nat.xor_lt_two_pow h (Nat.lt_of_le_of_lt Nat.and_le_left h)
theorem Lt (a b:Nat):D5 a b=0↔a ||| b=b:=by
 constructor
 .intro h;refine Nat.eq_of_testBit_eq λ e=>?_;have h1:=wB a b e;rw[h,Nat.zero_testBit] at h1;rw[Nat.testBit_or];cases ha:a.testBit e<;>cases hb:b.testBit e<;>simp_all
 .intro h;refine Nat.eq_of_testBit_eq λ e=>?_;have h1:=congrArg (λ n:Nat=>n.testBit e) h;simp only[Nat.testBit_or] at h1;rw[wB,Nat.zero_testBit];cases ha:a.testBit e<;>cases hb:b.testBit e<;>simp_all
theorem Oz (x d:Nat):(x >>> d) &&& 1=if x.testBit d=true then 1 else 0:=by
 rw[Nat.and_one_is_mod,Nat.testBit_eq_decide_div_mod_eq,Nat.shiftRight_eq_div_pow];by_cases h:x / 2 ^ d % 2=1
 .simp[h]
 .have:x / 2 ^ d % 2=0:=by omega
  simp[this]
theorem MT {d:Nat}(hd:d<=62):IntKind.i64.wrap (1*2 ^ (min ((d:Int)).toNat IntKind.i64.bits))=((2 ^ d:Nat):Int):=by
 have h1:min ((d:Int)).toNat IntKind.i64.bits=d:=by
  show min ((d:Int)).toNat 64=d;omega
 rw[h1];have h2:(2:Nat) ^ d<2 ^ 63:=Nat.pow_lt_pow_right yA yA;have h3:(1*2 ^ d:Int)=((2 ^ d:Nat):Int):=by push_cast;omega
 rw[h3,Rs h2]
theorem Ib {x:Nat}(h:x<2 ^ 63):x % 2 ^ IntKind.i64.bits=x:=by
 show x % 2 ^ 64=x;omega
theorem and_s {x y:Nat}(hx:x<2 ^ 63)(hy:y<2 ^ 63):IntKind.i64.wrap ((x % 2 ^ IntKind.i64.bits &&& y % 2 ^ IntKind.i64.bits:Nat):Int)=((x &&& y:Nat):Int):=by
 rw[Ib hx,Ib hy,Rs (Nat.and_lt_two_pow x hy)]
theorem H3 {x y:Nat}(hx:x<2 ^ 63)(hy:y<2 ^ 63):IntKind.i64.wrap ((x % 2 ^ IntKind.i64.bits ||| y % 2 ^ IntKind.i64.bits:Nat):Int)=((x ||| y:Nat):Int):=by
 rw[Ib hx,Ib hy,Rs (Nat.or_lt_two_pow hx hy)]
theorem shr_s (x:Nat){d:Nat}(hd:d<=64):Int.fdiv (x:Int) (2 ^ (min d IntKind.i64.bits))=((x >>> d:Nat):Int):=by
 have h1:min d IntKind.i64.bits=d:=by
  show min d 64=d;omega
 rw[h1,Nat.shiftRight_eq_div_pow,Int.fdiv_eq_ediv_of_nonneg _ (Int.le_of_lt (Int.pow_pos yA))];norm_cast
theorem LX {x d:Nat}(hx:x<2 ^ 63)(hd:d<=64):∃ y z:Nat,Int.fdiv (x:Int) (2 ^ (min d IntKind.i64.bits))=(y:Int)/\IntKind.i64.wrap ((y % 2 ^ IntKind.i64.bits &&& 1 % 2 ^ IntKind.i64.bits:Nat):Int)=(z:Int)/\((z:Int) == 1)=x.testBit d:=by
 refine⟨x >>> d,_,shr_s x hd,and_s (y:=1) (Nat.lt_of_le_of_lt (Nat.shiftRight_le x d) hx) yA,?_⟩;rw[Oz];cases x.testBit d<;>rfl
theorem ON {d:Nat}(hd:d<=62):IntKind.i64.wrap (2 ^ (min d IntKind.i64.bits))=((2 ^ d:Nat):Int):=by
 have h:=MT hd;rw[Int.one_mul] at h
 simpa using h
theorem DQ {x y:Nat}(hx:x<2 ^ 63)(hy:y<2 ^ 63):(x &&& (2 ^ 64-1-y))=D5 x y:=by
 have h1:(BitVec.ofNat 64 x &&& ~~~BitVec.ofNat 64 y).toNat=D5 x y:=by
  refine Nat.eq_of_testBit_eq λ e=>?_;rw[wB];by_cases he:e<64
  .rw[BitVec.testBit_toNat,BitVec.getLsbD_and,BitVec.getLsbD_not,BitVec.getLsbD_ofNat,BitVec.getLsbD_ofNat];simp[he]
  .have h2:x.testBit e=false:=Nat.testBit_lt_two_pow (Nat.lt_of_lt_of_le hx (Nat.pow_le_pow_right yA yA));rw[h2];exact Nat.testBit_lt_two_pow (Nat.lt_of_lt_of_le (BitVec.isLt _) (Nat.pow_le_pow_right yA yA))
 rw[BitVec.toNat_and,BitVec.toNat_not,BitVec.toNat_ofNat,BitVec.toNat_ofNat,Nat.mod_eq_of_lt yA,Nat.mod_eq_of_lt yA] at h1;exact h1
theorem DP {x y:Nat}(hx:x<2 ^ 63)(hy:y<2 ^ 63):IntKind.i64.wrap ((x % 2 ^ IntKind.i64.bits &&& 2 ^ IntKind.i64.bits-1-y % 2 ^ IntKind.i64.bits:Nat):Int)=((D5 x y:Nat):Int):=by
 rw[Ib hx,Ib hy];exact (congrArg (λ n:Nat=>IntKind.i64.wrap (n:Int)) (DQ hx hy)).trans (Rs (Lv hx))
theorem Lu {x y:Nat}:(((D5 x y:Nat):Int) != 0)=!decide (x ||| y=y):=by
 have h:=Lt x y;by_cases hd:x ||| y=y
 .rw[h.2 hd];simp[hd]
 .have:D5 x y≠0:=λ e=>hd (h.1 e);simp[hd,this]
end Go.aK
namespace Go.Proofs.YtlkmbdfhdknlgaaGreat
open Go.Can Go.aK
theorem Ng (x d:Nat)(hx:x<2 ^ 63):ae Tryz.prog 60 [I x,I d] (.bool (decide (d<=8) && x.testBit d)):=by
 have h0:¬ ((d:Int)<0):=by omega
 have h1:(0:Int)<=d:=by omega
 refine ae.aD af Tryz.func60 rfl Bw (by simp[Tryz.ntmps60]) rfl λ C hC M0=>?_;rw[Tryz.ntmps60] at hC;apply aq;simp[hC];by_cases h8:d<=8
 .have h8i:(d:Int)<=8:=by omega
  obtain⟨y,z,hy,hz,hb⟩:=LX hx (show d<=64 by omega);apply aq;simp[hC,h0,h1,h8,h8i,hy,hz,hb];apply T.ret;apply aa.here;simp[Tryz.results60]
 .have h8i:¬ (d:Int)<=8:=by omega
  apply aq;simp[hC,h1,h8,h8i];apply T.ret;apply aa.here;simp[Tryz.results60]
end Go.Proofs.YtlkmbdfhdknlgaaGreat
namespace Go.aK
open Go.Can List
def eT (x:Is)(m:Nat):In->Int
 | .lock un p=>if jl x p=m then (if un=true then -1 else 1) else 0
 | _=>0
def jn (z:In)(pc:Nat):List Nat:=match z with
 | .ret=>[]
 | .jump g=>[g]
 | .branch g _=>if g=pc+1 then [g] else [min g (pc+1),max g (pc+1)]
 | _=>[pc+1]
def fk:In->Bool
 | .call g _ _ _=>!g
 | _=>false
def vL:In->Bool
 | .ret=>true
 | _=>false
def fx (c:Cl)(i pc:Nat):Nat:=((c.calls.getD i []).getD pc (-1)).toNat
section
variable (u:Un)(c:Cl)(m L:Nat)
inductive Ri (S:Nat->Nat->Nat->Prop)(i:Nat):Nat->Nat->Nat->Prop
 | base {d:Nat} (h:d<=L):Ri S i 0 d d
 | step {pc d e e' q:Nat} {x:Is} {z:In} (h:Ri S i pc d e) (hx:c.is[i]? = some x) (hz:(ay u x)[pc]? = some z) (hc:fk z=false) (he:(e':Int)=e+eT x m z) (hl:e'<=L) (hq:q∈jn z pc):Ri S i q d e'
 | call {pc d e e':Nat} {x:Is} {z:In} (h:Ri S i pc d e) (hx:c.is[i]? = some x) (hz:(ay u x)[pc]? = some z) (hc:fk z=true) (hs:S (fx c i pc) e e') (hl:e'<=L):Ri S i (pc+1) d e'
def IT (S:Nat->Nat->Nat->Prop)(i d e:Nat):Prop:=∃ (pc:Nat) (x:Is),c.is[i]? = some x/\(ay u x)[pc]? = some .ret/\Ri u c m L S i pc d e
inductive Rr:Nat->Nat->Nat->Nat->Prop
 | base {i d:Nat} (h:d<=L):Rr i 0 d d
 | step {i pc d e e' q:Nat} {x:Is} {z:In} (h:Rr i pc d e) (hx:c.is[i]? = some x) (hz:(ay u x)[pc]? = some z) (hc:fk z=false) (he:(e':Int)=e+eT x m z) (hl:e'<=L) (hq:q∈jn z pc):Rr i q d e'
 | call {i pc d e e' pk:Nat} {x y:Is} {z:In} (h:Rr i pc d e) (hx:c.is[i]? = some x) (hz:(ay u x)[pc]? = some z) (hc:fk z=true) (hk:Rr (fx c i pc) pk e e') (hy:c.is[fx c i pc]? = some y) (hr:(ay u y)[pk]? = some .ret) (hl:e'<=L):Rr i (pc+1) d e'
def vT (i d e:Nat):Prop:=∃ (pc:Nat) (x:Is),c.is[i]? = some x/\(ay u x)[pc]? = some .ret/\Rr u c m L i pc d e
inductive ql:Nat->Nat->Prop
 | root {r:Nat} (h:r∈c.roots):ql r 0
 | call {i d e pc:Nat} {x:Is} {z:In} (h:ql i d) (hr:Rr u c m L i pc d e) (hx:c.is[i]? = some x) (hz:(ay u x)[pc]? = some z) (hc:fk z=true):ql (fx c i pc) e
def Be (i pc e:Nat):Prop:=∃ d,ql u c m L i d/\Rr u c m L i pc d e
end
section
variable {u:Un}{c:Cl}{m L:Nat}
theorem Ri.mono {S S':Nat->Nat->Nat->Prop}(hS:∀ i d e,S i d e->S' i d e){i pc d e:Nat}(h:Ri u c m L S i pc d e):Ri u c m L S' i pc d e:=by
 induction h with
 | base h=>exact .base h
 | step _ hx hz hc he hl hq ih=>exact .step ih hx hz hc he hl hq
 | call _ hx hz hc hs hl ih=>exact .call ih hx hz hc (hS _ _ _ hs) hl
theorem Ri.le {S:Nat->Nat->Nat->Prop}{i pc d e:Nat}(h:Ri u c m L S i pc d e):d<=L/\e<=L:=by
 induction h with
 | base h=>exact⟨h,h⟩
 | step _ _ _ _ _ hl _ ih=>exact⟨ih.1,hl⟩
 | call _ _ _ _ _ hl ih=>exact⟨ih.1,hl⟩
theorem Rr.ri {i pc d e:Nat}(h:Rr u c m L i pc d e):Ri u c m L (vT u c m L) i pc d e:=by
 induction h with
 | base h=>exact .base h
 | step _ hx hz hc he hl hq ih=>exact .step ih hx hz hc he hl hq
 | call _ hx hz hc hk hy hr hl ih _=>exact .call ih hx hz hc ⟨_,_,hy,hr,hk⟩ hl
theorem Ri.rr {i pc d e:Nat}(h:Ri u c m L (vT u c m L) i pc d e):Rr u c m L i pc d e:=by
 induction h with
 | base h=>exact .base h
 | step _ hx hz hc he hl hq ih=>exact .step ih hx hz hc he hl hq
 | call _ hx hz hc hs hl ih=>
  obtain⟨pk,y,hy,hr,hk⟩:=hs;exact .call ih hx hz hc hk hy hr hl
theorem P2 {i pc d e:Nat}:Ri u c m L (vT u c m L) i pc d e↔Rr u c m L i pc d e:=⟨Ri.rr,Rr.ri⟩
theorem IT.mono {S S':Nat->Nat->Nat->Prop}(hS:∀ i d e,S i d e->S' i d e){i d e:Nat}:IT u c m L S i d e->IT u c m L S' i d e:=λ⟨pc,x,h1,h2,h3⟩=>⟨pc,x,h1,h2,h3.mono hS⟩
theorem GQ {i d e:Nat}:IT u c m L (vT u c m L) i d e↔vT u c m L i d e:=⟨λ⟨pc,x,h1,h2,h3⟩=>⟨pc,x,h1,h2,h3.rr⟩,λ⟨pc,x,h1,h2,h3⟩=>⟨pc,x,h1,h2,h3.ri⟩⟩
theorem Rr.least {S:Nat->Nat->Nat->Prop}(hS:∀ i d e,IT u c m L S i d e->S i d e){i pc d e:Nat}(h:Rr u c m L i pc d e):Ri u c m L S i pc d e:=by
 induction h with
 | base h=>exact .base h
 | step _ hx hz hc he hl hq ih=>exact .step ih hx hz hc he hl hq
 | call _ hx hz hc _ hy hr hl ih ih2=>exact .call ih hx hz hc (hS _ _ _ ⟨_,_,hy,hr,ih2⟩) hl
theorem vT.least {S:Nat->Nat->Nat->Prop}(hS:∀ i d e,IT u c m L S i d e->S i d e){i d e:Nat}(h:vT u c m L i d e):S i d e:=by
 obtain⟨pc,x,h1,h2,h3⟩:=h;exact hS _ _ _ ⟨pc,x,h1,h2,h3.least hS⟩
end
noncomputable def vM (L:Nat) (p:Nat->Nat->Prop):List Nat:=(range (L+1)).map λ d=>lU L (p d)
theorem nN (L:Nat)(p:Nat->Nat->Prop):wK L (vM L p):=⟨by simp[vM],λ s hs=>by
 simp only[vM,mem_map] at hs;obtain⟨d,_,rfl⟩:=hs;exact pt L _⟩
theorem iX {L:Nat}{p:Nat->Nat->Prop}{d e:Nat}(hd:d<=L)(he:e<=L):(bM (vM L p) d e=true↔p d e):=by
 unfold bM vM;rw[getD_eq_getElem?_getD,getElem?_map,getElem?_eq_getElem Tv];simp only[getElem_range,Option.map_some,Option.getD_some];exact p7 he
theorem F8 {L:Nat}{p:Nat->Nat->Prop}{r:List Nat}(hr:wK L r)(h:∀ d e,d<=L->e<=L->(bM r d e=true↔p d e)):r=vM L p:=
 FP hr (nN L p) λ d e hd he=>by
  have h1:=h d e hd he;have h2:=iX (p:=p) hd he;cases hb:bM r d e<;>cases hc:bM (vM L p) d e<;>simp_all
structure yz (L n:Nat)(t:List (List Nat)):Prop where
 len:t.length=n
 row:∀ r∈t,wK L r
theorem jG {t:List (List Nat)}{p:Nat}{r:List Nat}(h:t[p]? = some r)(d e:Nat):gP t p d e=bM r d e:=by
 simp[gP,getD_eq_getElem?_getD,h]
theorem z7 {t:List (List Nat)}{p:Nat}(h:t.length<=p)(d e:Nat):gP t p d e=false:=by
 simp[gP,getD_eq_getElem?_getD,getElem?_eq_none h,bM]
theorem yz.get {L n:Nat}{t:List (List Nat)}(h:yz L n t){p:Nat}(hp:p<n):∃ r,t[p]? = some r/\wK L r:=by
 have:=h.len;refine⟨_,getElem?_eq_getElem yA,h.row _ (getElem_mem _)⟩
theorem yz.lt {L n:Nat}{t:List (List Nat)}(h:yz L n t){p d e:Nat}(hb:gP t p d e=true):p<n/\d<=L/\e<=L:=by
 by_cases hp:p<n
 .obtain⟨r,hr,hw⟩:=h.get hp;rw[jG hr] at hb;exact⟨hp,oq hw hb⟩
 .rw[z7 (by have:=h.len;omega)] at hb;cases hb
theorem yz.set {L n:Nat}{t:List (List Nat)}(h:yz L n t){p:Nat}{r:List Nat}(hr:wK L r):yz L n (t.set p r):=⟨by rw[length_set];exact h.len,λ x hx=>by
 rcases mem_or_eq_of_mem_set hx with hx | rfl
 .exact h.row x hx
 .exact hr⟩
theorem lC {t:List (List Nat)}{p q d e:Nat}{r:List Nat}(hp:p<t.length):gP (t.set p r) q d e=if q=p then bM r d e else gP t q d e:=by
 unfold gP;rw[getD_eq_getElem?_getD,getD_eq_getElem?_getD,getElem?_set];by_cases h:p=q
 .subst h;simp[hp]
 .rw[if_neg h,if_neg (λ e=>h e.symm)]
noncomputable def uq (L n:Nat) (p:Nat->Nat->Nat->Prop):List (List Nat):=(range n).map λ i=>vM L (p i)
theorem lO (L n:Nat)(p:Nat->Nat->Nat->Prop):yz L n (uq L n p):=⟨by simp[uq],λ r hr=>by
 simp only[uq,mem_map] at hr;obtain⟨i,_,rfl⟩:=hr;exact nN L _⟩
theorem Am {L n:Nat}(p:Nat->Nat->Nat->Prop){i:Nat}(h:i<n):(uq L n p)[i]? = some (vM L (p i)):=by
 rw[uq,getElem?_map,getElem?_eq_getElem UA];simp
theorem sf {L n:Nat}{p:Nat->Nat->Nat->Prop}{i d e:Nat}(hi:i<n)(hd:d<=L)(he:e<=L):(gP (uq L n p) i d e=true↔p i d e):=by
 rw[jG (Am p hi)];exact iX hd he
theorem FW {L n:Nat}{p:Nat->Nat->Nat->Prop}{t:List (List Nat)}(ht:yz L n t)(h:∀ i d e,i<n->d<=L->e<=L->(gP t i d e=true↔p i d e)):t=uq L n p:=by
 refine ext_getElem? λ i=>?_;by_cases hi:i<n
 .obtain⟨r,hr,hw⟩:=ht.get hi;rw[hr,Am p hi];congr 1;refine F8 hw λ d e hd he=>?_;have:=h i d e hi hd he;rwa [jG hr] at this
 .rw[getElem?_eq_none (by have:=ht.len;omega),getElem?_eq_none (by have:=(lO L n p).len;omega)]
end Go.aK
