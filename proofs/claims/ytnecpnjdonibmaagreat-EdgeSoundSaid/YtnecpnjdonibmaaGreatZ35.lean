/- block: its memory, and the short forms of its walk. -/
import Derived.Test.YtnecpnjdonibmaaGreatZ34
namespace Go.Proofs.YtnecpnjdonibmaaGreat
open Go.Can Go.aP
def K7 (id:Nat):Code→Option Code
 | .block j x=>if j=id then some (.block j x) else K7 id x
 | .seq a b=>match K7 id a with
  | some c=>some c
  | none=>K7 id b
 | .cond _ a b=>match K7 id a with
  | some c=>some c
  | none=>K7 id b
 | .loop x=>K7 id x
 | .scope x=>K7 id x
 | _=>none
def iQ (f:Func)(id:Nat):Code:=((f.body).bind (K7 id)).getD .skip
theorem eE (x:In):trees (dd x)=true:=by
 cases x with
 | set t g e=>simp only[dd,bF,bA,Bool.and_true];rfl
 | call g t l ps=>simp only[dd,bF,bA,trees,tree,Bool.and_true];rfl
 | lock u q=>simp only[dd,bF,bA,gW,Bool.and_true];rfl
 | branch t e=>simp only[dd,bF,bA,Bool.and_true];rfl
 | jump t=>rfl
 | ret=>rfl
theorem kz (e:Ex):∃ o n s cs m,bK e=[I o,I n,.str s,.az cs m]∧trees cs=true:=⟨_,_,_,_,_,bU e,aF bA _⟩
theorem GR (q:Pl):∃ b n cs m,l9 q=[.bool b,I n,.az cs m]∧trees cs=true:=⟨_,_,_,_,by rw[l9,mr],aF bA _⟩
theorem LZ (r:Rf):∃ s cs m,j9 r=[.str s,.az cs m]∧trees cs=true:=⟨_,_,_,by rw[j9,mr],aF bA _⟩
def eC (l:List In):Ob:=⟨85,12,l.flatMap dd⟩
def fz (l:List Nat):Ob:=⟨3,1,l.map fun n:Nat=>I n⟩
theorem b9 (l:List In):trees (l.flatMap dd)=true:=aF eE l
theorem aQ (l:List Nat):trees (l.map fun n:Nat=>I n)=true:=by
 induction l with
 | nil=>rfl
 | cons a r ih=>rw[List.map_cons,trees,ih];rfl
theorem yn (l:List In):(l.flatMap dd).length=l.length*12:=bk (f:=dd) fo l
theorem G3 (x:In):(dd x).map nz=dd x:=by
 cases x with
 | set t g e=>simp[dd,bU,qL]
 | call g t l ps=>simp[dd,bU,qL]
 | lock u q=>simp[dd,bU,l9,mr]
 | branch t e=>simp[dd,bU,qL]
 | jump t=>simp[dd,bU,qL]
 | ret=>simp[dd,bU,qL]
theorem pb (l:List In):(l.flatMap dd).map nz=l.flatMap dd:=by
 induction l with
 | nil=>rfl
 | cons a r ih=>rw[List.flatMap_cons,List.map_append,ih,G3]
def Bz (c:CV):Bool:=match c with
 | .av p 0=>p == 0 || p == 5
 | c=>tree c
section
variable (p:Pg)(E0:List En)(l:List Sm)(i:Nat)
def bE:List (Nat×CV):=[(5,I i),(4,.az (E0.flatMap gN) E0.length),(0,.av 0 0),(1,.az (bz l) l.length)]
def NS (E:List En)(k st:Nat)(c:List In)(s:List Nat):St:=⟨bE E0 l i,[(0,fj p E k st 3 c.length 4 s.length),(3,eC c),(4,fz s)],5⟩
def Hq:Sm→Int
 | .gA _ _=>1
 | .hD _ _=>2
 | .dI g _ _=>if g=true then 4 else 3
 | .di u _=>if u=true then 6 else 5
 | .kG _ _ _=>7
 | .cC _ _=>8
 | .jb=>9
def mE (n:Nat):List (Nat×CV):=[(6,.av 5 0),(7,I n),(5,I i),(4,.az (E0.flatMap gN) E0.length),(0,.av 0 0),(1,.az (bz l) l.length)]
def mH (E:List En)(k st:Nat)(c:List In)(s:List Nat)(x:Sm):List (Nat×Ob):=[(0,fj p E k st 3 c.length 4 s.length),(3,eC c),(4,fz s),(5,⟨265,0,gM x⟩)]
def MS (E:List En)(k st:Nat)(c:List In)(s:List Nat)(x:Sm)(n:Nat):St:=
 ⟨(41,I (Hq x))::mE E0 l i n,mH p E k st c s x,6⟩
end
theorem GZ {c:CV}(h:Bz c=true){m:List (Nat×Nat)}(h0:(assoc m 0).isSome=true)(h5:c≠.av 5 0∨(assoc m 5).isSome=true):um m c=true:=by
 cases c with
 | av q f=>
  cases f with
  | zero=>
   simp only[Bz,Bool.or_eq_true,beq_iff_eq] at h;rcases h with rfl | rfl
   ·exact h0
   ·rcases h5 with h5 | h5
    ·exact (h5 rfl).elim
    ·exact h5
  | succ f=>simp[Bz,tree] at h
 | agg cs=>simp only[Bz,tree] at h;exact aH h m
 | dH cs=>simp only[Bz,tree] at h;exact aH h m
 | _=>first | exact h | simp[Bz,tree] at h
theorem Mp {c:CV}(h:Bz c=true)(m:List (Nat×Nat))(n:Nat)(h0:gf m n 0=0)(h5:c≠.av 5 0∨gf m n 5=5):dR (gf m n) c=c:=by
 cases c with
 | av q f=>
  cases f with
  | zero=>
   simp only[Bz,Bool.or_eq_true,beq_iff_eq] at h;rcases h with rfl | rfl
   ·rw[dR,h0]
   ·rcases h5 with h5 | h5
    ·exact (h5 rfl).elim
    ·rw[dR,h5]
  | succ f=>simp[Bz,tree] at h
 | _=>exact gB _ _ h
theorem xP {m:List (Nat×Nat)}{n:Nat}(h0:gf m n 0=0):∀ {e:List (Nat×CV)},(e.all fun x=>Bz x.2)=true→((∀ x∈e,x.2≠CV.av 5 0)∨gf m n 5=5)→dC (gf m n) e=e
 | [],_,_=>rfl
 | (t,c)::e,h,h5=>by
  simp only[List.all_cons,Bool.and_eq_true] at h;rw[dC,Mp h.1 m n h0 (h5.imp (fun h5=>h5 (t,c) List.mem_cons_self) id),xP h0 h.2 (h5.imp (fun h5 x hx=>h5 x (List.mem_cons_of_mem _ hx)) id)]
theorem cL (ρ:Nat→Nat)(t:TypeId)(n:Nat){cs:List CV}(h:trees cs=true):ct ρ ⟨t,n,cs⟩=⟨t,n,cs⟩:=by simp only[ct,ay ρ _ h]
theorem iA (p:Pg):tree (.az (p.gs.flatMap nW) p.gs.length)=true∧tree (.az (p.ms.flatMap eL) p.ms.length)=true∧tree (.az (p.fs.flatMap eF) p.fs.length)=true:=
 ⟨by simp only[tree],by simp only[tree],by simp only[tree]⟩
theorem cj (E:List En):trees (E.flatMap gN)=true:=aF (fun _=>rfl) E
section
variable {C:Cx}{s:St}{p:Pg}
theorem Bl (E:List En)(k st a cl b sl:Nat)(m:List (Nat×Nat))(ha:(assoc m a).isSome=true)(hb:(assoc m b).isSome=true):(fj p E k st a cl b sl).cells.all (p4 m)=true:=by
 obtain⟨t1,t2,t3⟩:=iA p;have t4:=cj E;simp only[fj,List.all_cons,List.all_nil,p4,ha,hb,Bool.and_true,Bool.and_eq_true];simp only[tree] at t1 t2 t3 ⊢;refine⟨t1,t2,t3,?_⟩;simp
theorem qc (E:List En)(k st a cl b sl:Nat)(ρ:Nat→Nat):ct ρ (fj p E k st a cl b sl)=fj p E k st (ρ a) cl (ρ b) sl:=by
 obtain⟨t1,t2,t3⟩:=iA p;have t4:tree (.az (E.flatMap gN) E.length)=true:=by simp only[tree]
 simp only[ct,fj,cq,gB ρ _ t1,gB ρ _ t2,gB ρ _ t3,gB ρ _ t4];rfl
theorem kf (PN:C.n0=3)(ks:List Nat)(a b:Nat){e:List (Nat×CV)}{E:List En}{k st N M:Nat}{X S:List CV}{c':List In}{s':List Nat}(he:pick s.env ks=e)(P9:(e.all fun x=>Bz x.2)=true)(h5:∀ x∈e,x.2≠CV.av 5 0)(UN:(a != b && (a != 0 && b != 0))=true)
  (h0:assoc s.heap 0=some (fj p E k st a N b M)) (ha:assoc s.heap a=some ⟨85,12,X⟩) (hb:assoc s.heap b=some ⟨3,1,S⟩) (hX:X.map nz=c'.flatMap dd) (hS:S=s'.map fun n:Nat=>I n) (hN:N=c'.length) (hM:M=s'.length) :
  Le C s ⟨e,[(0,fj p E k st 3 c'.length 4 s'.length),(3,eC c'),(4,fz s')],5⟩:=by
 subst hN hM hS;simp only[Bool.and_eq_true,bne_iff_ne,ne_eq] at UN;obtain⟨n1,n2,n3⟩:=UN;have n1':¬ b=a:=fun h=>n1 h.symm;refine Le.trans (Le.nz [] [a]) ?_;have e1:Fv [] s.env=s.env:=by
  have:∀ e:List (Nat×CV),Fv [] e=e:=by
   intro e
   induction e with
   | nil=>rfl
   | cons x r ih=>obtain⟨k,c⟩:=x;rw[Fv,ih];rfl
  exact this _
 rw[e1];have g0:assoc (zx [a] s.heap) 0=some (fj p E k st a c'.length b s'.length):=by
  rw[dL,h0];simp[Ne.symm n2]
 have ga:assoc (zx [a] s.heap) a=some (eC c'):=by
  rw[dL,ha];simp[hX,eC]
 have gb:assoc (zx [a] s.heap) b=some (fz s'):=by
  rw[dL,hb];simp[n1',fz]
 have r0:gf [(0,0),(a,3),(b,4)] 5 0=0:=rfl;have ra:gf [(0,0),(a,3),(b,4)] 5 a=3:=by simp[gf,assoc,Ne.symm n2]
 have rb:gf [(0,0),(a,3),(b,4)] 5 b=4:=by simp[gf,assoc,Ne.symm n3,n1]
 have QQ:=Le.norm (C:=C) (s:=⟨s.env,zx [a] s.heap,s.nx⟩) ks [(0,0),(a,3),(b,4)] 3 5 (by simp[ue,n1,Ne.symm n2,Ne.symm n3]) (by simp only[List.all_cons,List.all_nil,g0,ga,gb];rfl) ?_ yA
 ·simp only[he,List.map_cons,List.map_nil,pick,g0,ga,gb,cb] at QQ;rw[xP r0 P9 (.inl h5),r0,ra,rb,qc,ra,rb,eC,fz,cL _ _ _ (b9 c'),cL _ _ _ (aQ s')] at QQ;exact QQ
 ·simp only[dD,he,List.map_cons,List.map_nil,pick,g0,ga,gb,List.all_cons,List.all_nil,Bool.and_true,Bool.and_eq_true,List.all_eq_true (l:=e)];refine⟨fun x hx=>GZ ((List.all_eq_true.1 P9) x hx) rfl (.inl (h5 x hx)),Bl E k st a _ b _ _ (by simp[assoc,Ne.symm n2]) (by simp[assoc,Ne.symm n3];split<;>rfl),aH (b9 c') _,aH (aQ s') _⟩
theorem jd (PN:C.n0=3)(ks:List Nat)(a b:Nat){e:List (Nat×CV)}{E:List En}{k st N M:Nat}{X S cs:List CV}{c':List In}{s':List Nat}(he:pick s.env ks=e)(P9:(e.all fun x=>Bz x.2)=true)(UN:((a != b && (a != 0 && b != 0)) && (a != 5 && b != 5))=true)
  (h0:assoc s.heap 0=some (fj p E k st a N b M)) (ha:assoc s.heap a=some ⟨85,12,X⟩) (hb:assoc s.heap b=some ⟨3,1,S⟩) (h5:assoc s.heap 5=some ⟨265,0,cs⟩) (Ql:trees cs=true) (hX:X.map nz=c'.flatMap dd) (hS:S=s'.map fun n:Nat=>I n) (hN:N=c'.length) (hM:M=s'.length) :
  Le C s ⟨e,[(0,fj p E k st 3 c'.length 4 s'.length),(3,eC c'),(4,fz s'),(5,⟨265,0,cs⟩)],6⟩:=by
 subst hN hM hS;simp only[Bool.and_eq_true,bne_iff_ne,ne_eq] at UN;obtain⟨⟨n1,n2,n3⟩,n4,n5⟩:=UN;have n1':¬ b=a:=fun h=>n1 h.symm;refine Le.trans (Le.nz [] [a]) ?_;have e1:Fv [] s.env=s.env:=by
  have:∀ e:List (Nat×CV),Fv [] e=e:=by
   intro e
   induction e with
   | nil=>rfl
   | cons x r ih=>obtain⟨k,c⟩:=x;rw[Fv,ih];rfl
  exact this _
 rw[e1];have g0:assoc (zx [a] s.heap) 0=some (fj p E k st a c'.length b s'.length):=by
  rw[dL,h0];simp[Ne.symm n2]
 have ga:assoc (zx [a] s.heap) a=some (eC c'):=by
  rw[dL,ha];simp[hX,eC]
 have gb:assoc (zx [a] s.heap) b=some (fz s'):=by
  rw[dL,hb];simp[n1',fz]
 have g5:assoc (zx [a] s.heap) 5=some ⟨265,0,cs⟩:=by
  rw[dL,h5];simp;intro h;exact (n4 h.symm).elim
 have r0:gf [(0,0),(a,3),(b,4),(5,5)] 6 0=0:=rfl;have ra:gf [(0,0),(a,3),(b,4),(5,5)] 6 a=3:=by simp[gf,assoc,Ne.symm n2]
 have rb:gf [(0,0),(a,3),(b,4),(5,5)] 6 b=4:=by simp[gf,assoc,Ne.symm n3,n1]
 have r5:gf [(0,0),(a,3),(b,4),(5,5)] 6 5=5:=by simp[gf,assoc,n4,n5]
 have QQ:=Le.norm (C:=C) (s:=⟨s.env,zx [a] s.heap,s.nx⟩) ks [(0,0),(a,3),(b,4),(5,5)] 3 6 (by simp[ue,n1,Ne.symm n2,Ne.symm n3,n4,n5]) (by simp only[List.all_cons,List.all_nil,g0,ga,gb,g5];rfl) ?_ yA
 ·simp only[he,List.map_cons,List.map_nil,pick,g0,ga,gb,g5,cb] at QQ;rw[xP r0 P9 (.inr r5),r0,ra,rb,r5,qc,ra,rb,eC,fz,cL _ _ _ (b9 c'),cL _ _ _ (aQ s'),cL _ _ _ Ql] at QQ;exact QQ
 ·simp only[dD,he,List.map_cons,List.map_nil,pick,g0,ga,gb,g5,List.all_cons,List.all_nil,Bool.and_true,Bool.and_eq_true,List.all_eq_true (l:=e)];refine⟨fun x hx=>GZ ((List.all_eq_true.1 P9) x hx) rfl (.inr (by simp[assoc,n4,n5])),Bl E k st a _ b _ _ (by simp[assoc,Ne.symm n2]) (by simp[assoc,Ne.symm n3];split<;>rfl),aH (b9 c') _,aH (aQ s') _,aH Ql _⟩
end
theorem xF (p:Pg)(E:List En)(k st a cl b sl n:Nat)(ha:a<n)(hb:b<n):aS n (fj p E k st a cl b sl).cells=true:=by
 obtain⟨t1,t2,t3⟩:=iA p;have t4:tree (.az (E.flatMap gN) E.length)=true:=by simp only[tree]
 simp only[fj,aS,a6 n _ t1,a6 n _ t2,a6 n _ t3,a6 n _ t4,Bool.true_and];simp[a7,ha,hb]
def okW (c:CV):Bool:=match c with
 | .av p 0=>p == 0
 | c=>tree c
theorem GY {c:CV}(h:okW c=true)(ρ:Nat→Nat)(h0:ρ 0=0):dR ρ c=c:=by
 cases c with
 | av q f=>
  cases f with
  | zero=>
   simp only[okW,beq_iff_eq] at h;subst h;rw[dR,h0]
  | succ f=>simp[okW,tree] at h
 | _=>exact gB _ _ h
theorem CR {ρ:Nat→Nat}(h0:ρ 0=0):∀ {cs:List CV},cs.all okW=true→cq ρ cs=cs
 | [],_=>rfl
 | c::cs,h=>by
  simp only[List.all_cons,Bool.and_eq_true] at h;rw[cq,GY h.1 ρ h0,CR h0 h.2]
theorem tW {n:Nat}(hn:0<n):∀ {cs:List CV},cs.all okW=true→aS n cs=true
 | [],_=>rfl
 | c::cs,h=>by
  simp only[List.all_cons,Bool.and_eq_true] at h;rw[aS,tW hn h.2,Bool.and_true];have h1:=h.1
  cases c with
  | av q f=>
   cases f with
   | zero=>
    simp only[okW,beq_iff_eq] at h1;subst h1
    simpa [a7] using hn
   | succ f=>simp[okW,tree] at h1
  | _=>exact a6 _ _ h1
theorem JK (m:Nat)(h:4<m):G0 [0,3,4] m=true:=by
 simp only[G0,List.all_cons,List.all_nil,Bool.and_true,Bool.and_eq_true,decide_eq_true_eq];refine⟨⟨by omega,by omega,by omega⟩,by decide⟩
theorem Hi (m:Nat):cH [0,3,4] m 0=0:=rfl
theorem mapN1 (m:Nat):cH [0,3,4] m 1=3:=rfl
theorem mapN2 (m:Nat):cH [0,3,4] m 2=4:=rfl
theorem mapN3 (m:Nat):cH [0,3,4] m 3=m:=by simp[cH]
theorem mapN4 (m:Nat):cH [0,3,4] m 4=m+1:=by simp[cH];omega
def hO (H:List (Nat×Ob))(ks:List Nat)(nx:Nat):Bool:=H.all fun x=>!ks.contains x.1 && decide (x.1<nx)
theorem pA:∀ (ks:List Nat) (H:List (Nat×Ob)) (nx:Nat),hO H ks nx=true→dy H ks=H
 | [],_,_,_=>rfl
 | k::ks,H,nx,h=>by
  have h1:iY H k=H:=by
   have:∀ H:List (Nat×Ob),hO H (k::ks) nx=true→iY H k=H:=by
    intro H
    induction H with
    | nil=>intro _;rfl
    | cons x r ih=>
     intro h;obtain⟨q,ob⟩:=x;have h':=h;simp only[hO,List.all_cons,Bool.and_eq_true] at h';have h2:=h'.1.1;simp only[Bool.not_eq_true',List.contains_eq_mem,decide_eq_false_iff_not,List.mem_cons,not_or] at h2;rw[iY,if_neg h2.1,ih h'.2]
   exact this H h
  rw[dy,h1];refine pA ks H nx ?_;simp only[hO,List.all_eq_true,Bool.and_eq_true,Bool.not_eq_true',List.contains_eq_mem,decide_eq_false_iff_not,List.mem_cons,not_or] at h ⊢;exact fun x hx=>⟨(h x hx).1.2,(h x hx).2⟩
theorem K4 {H:List (Nat×Ob)}{ks:List Nat}{nx:Nat}(h:hO H ks nx=true):(H.all fun x=>decide (x.1<nx))=true:=by
 simp only[hO,List.all_eq_true,Bool.and_eq_true] at h ⊢;exact fun x hx=>(h x hx).2
section
variable {C:Cx}{p:Pg}{ops:Array Oper}{e:List (Nat×CV)}{H:List (Nat×Ob)}{nx:Nat}
theorem D5 (E:List En)(k st cl sl nx:Nat):cb (cH [0,3,4] nx) [(0,cY p E k st cl sl)]=[(0,fj p E k st 3 cl 4 sl)]:=by
 rw[cb,cb,xE,qc];rfl
theorem TL.gu {o:Oper}{l:List Oper}{c:Call}{g:FuncId}{args:List CV}{K:St→Prop}{r0:CV}{E:List En}{k st cl sl:Nat}(hb:Body Tryz.prog au g args [(0,cY p E k st cl sl)] 3 (iy r0 [(0,cY p E k st cl sl)] 3))(Q2:4<nx)(hH:hO H [0] nx=true)
  (hd:aZ C.nt o.dst=true) (hg:bN ops ⟨e,(0,fj p E k st 3 cl 4 sl)::H,nx⟩ o=Option.some true) (ho:o.op=.call c) (Qb:bl ⟨e,(0,fj p E k st 3 cl 4 sl)::H,nx⟩ c=Option.some (g,args)) (PT:args.all okW=true) (ht:tree r0=true)
  (hK:TL Tryz.prog C ops l (St.put ⟨e,(0,fj p E k st 3 cl 4 sl)::H,nx⟩ o.dst r0) K):TL Tryz.prog C ops (o::l) ⟨e,(0,fj p E k st 3 cl 4 sl)::H,nx⟩ K:=by
 have PL:dy ((0,fj p E k st 3 cl 4 sl)::H) [0]=H:=pA [0] H nx hH;refine TL.uJ ah [0,3,4] [0] 3 0 hb rfl (JK nx Q2) hd hg ho yBy (by simp only[D5];rfl) (tW yA PT) (by simp only[cT,xE,xF p E k st 1 cl 2 sl 3 yA yA];rfl) ht ?_ ?_
 ·simp only[D5,PL,kF,List.all_cons,List.all_nil,Bool.and_true,Bool.and_eq_true];exact⟨rfl,K4 hH⟩
 ·simp only[D5,PL];exact hK
theorem RX.gu {o:Oper}{cl:Call}{g:FuncId}{args:List CV}{r0:CV}{W:List q9}{nt N:Nat}{dyn:List (Nat×Nat)}{K:St→Prop}{i:Nat}{r:List Nat}{res:Nat→Er}{E:List En}{k st cn sn:Nat}(hb:Body Tryz.prog au g args [(0,cY p E k st cn sn)] 3 (iy r0 [(0,cY p E k st cn sn)] 3))(Q2:4<nx)(hH:hO H [0] nx=true)
  (hi:ops[i]? = Option.some o) (hd:aZ nt o.dst=true) (hg:bN ops ⟨e,(0,fj p E k st 3 cn 4 sn)::H,nx⟩ o=Option.some true) (hu:cc o=Option.some cl) (Qb:bl ⟨e,(0,fj p E k st 3 cn 4 sn)::H,nx⟩ cl=Option.some (g,args)) (PT:args.all okW=true) (ht:tree r0=true) (hv:Au dyn res i [0]=true)
  (hK:uF W dyn res i (iZ r0 [0] [] 0 [(0,fj p E k st 3 cn 4 sn)])∧lV au W nt ops N dyn (CE Tryz.prog au W nt ops N dyn K) r (note dyn res i (iZ r0 [0] [] 0 [(0,fj p E k st 3 cn 4 sn)])) (St.put ⟨e,(0,fj p E k st 3 cn 4 sn)::H,nx⟩ o.dst r0)):RX Tryz.prog au W nt ops N dyn K (i::r) res ⟨e,(0,fj p E k st 3 cn 4 sn)::H,nx⟩:=by
 have PL:dy ((0,fj p E k st 3 cn 4 sn)::H) [0]=H:=pA [0] H nx hH;refine RX.uJ [0,3,4] [0] [] 3 0 hb rfl (JK nx Q2) hi hd hg hu yBy (by simp only[D5];rfl) (tW yA PT) (by simp only[cT,xE,xF p E k st 1 cn 2 sn 3 yA yA];rfl) ht hv (by simp only[D5];rfl) (fun _ _ _=>rfl) ?_;simp only[D5,PL];exact hK
def T3 (p:Pg)(E:List En)(k st cl sl:Nat)(o1 o2:Ob):List (Nat×Ob):=[(0,fj p E k st 1 cl 2 sl),(1,o1),(2,o2)]
theorem rn_T {E:List En}{k st cl sl nx:Nat}{o1 o2:Ob}(h1:trees o1.cells=true)(h2:trees o2.cells=true):cb (cH [0,3,4] nx) (T3 p E k st cl sl o1 o2)=[(0,fj p E k st 3 cl 4 sl),(3,o1),(4,o2)]:=by
 simp only[T3,cb,qc,Hi,mapN1,mapN2];rw[show ct (cH [0,3,4] nx) o1=o1 from cL _ _ _ h1,show ct (cH [0,3,4] nx) o2=o2 from cL _ _ _ h2]
def T4 (p:Pg)(E:List En)(k st cl sl:Nat)(o1 o2:Ob):List (Nat×Ob):=[(0,fj p E k st 3 cl 4 sl),(3,o1),(4,o2)]
theorem CF {E:List En}{k st cl sl nx:Nat}{o1 o2:Ob}(h1:trees o1.cells=true)(h2:trees o2.cells=true):cb (cH [0,3,4] nx) (T4 p E k st cl sl o1 o2)=[(0,fj p E k st nx cl (nx+1) sl),(nx,o1),(nx+1,o2)]:=by
 simp only[T4,cb,qc,Hi,mapN3,mapN4];rw[show ct (cH [0,3,4] nx) o1=o1 from cL _ _ _ h1,show ct (cH [0,3,4] nx) o2=o2 from cL _ _ _ h2]
theorem Lo {E:List En}{k st cl sl:Nat}{o1 o2:Ob}(h1:trees o1.cells=true)(h2:trees o2.cells=true):cT 3 (T3 p E k st cl sl o1 o2)=true:=by
 simp only[T3,cT,xF p E k st 1 cl 2 sl 3 yA yA,fV 3 _ h1,fV 3 _ h2];rfl
variable {E E':List En}{k k' st Yy cn YQ sn Yz:Nat}{o1 o2 o3 o4:Ob}{args:List CV}{r0:CV}{g:FuncId}
theorem TL.gK {o:Oper}{l:List Oper}{c:Call}{K:St→Prop}(hb:Body Tryz.prog au g args (T3 p E k st cn sn o1 o2) 3 (iy r0 (T4 p E' k' Yy YQ Yz o3 o4) (3+2)))(h1:trees o1.cells=true)(h2:trees o2.cells=true)(h3:trees o3.cells=true)(h4:trees o4.cells=true)(Q2:4<nx)(hH:hO H [0,3,4] nx=true)
  (hd:aZ C.nt o.dst=true) (hg:bN ops ⟨e,(0,fj p E k st 3 cn 4 sn)::(3,o1)::(4,o2)::H,nx⟩ o=Option.some true) (ho:o.op=.call c) (Qb:bl ⟨e,(0,fj p E k st 3 cn 4 sn)::(3,o1)::(4,o2)::H,nx⟩ c=Option.some (g,args)) (PT:args.all okW=true) (ht:tree r0=true)
  (hK:TL Tryz.prog C ops l (St.put ⟨e,(0,fj p E' k' Yy nx YQ (nx+1) Yz)::(nx,o3)::(nx+1,o4)::H,nx+2⟩ o.dst r0) K):TL Tryz.prog C ops (o::l) ⟨e,(0,fj p E k st 3 cn 4 sn)::(3,o1)::(4,o2)::H,nx⟩ K:=by
 have PL:dy ((0,fj p E k st 3 cn 4 sn)::(3,o1)::(4,o2)::H) [0,3,4]=H:=pA [0,3,4] H nx hH;refine TL.uJ ah [0,3,4] [0,3,4] 3 2 hb rfl (JK nx Q2) hd hg ho yBy (by simp only[rn_T h1 h2];rfl) (tW yA PT) (Lo h1 h2) ht ?_ ?_
 ·simp only[CF h3 h4,PL,kF,Bool.and_eq_true];exact⟨by simp,K4 hH⟩
 ·simp only[CF h3 h4,PL];exact hK
theorem RX.gK {o:Oper}{cl:Call}{W:List q9}{nt N:Nat}{dyn:List (Nat×Nat)}{K:St→Prop}{i:Nat}{r:List Nat}{res:Nat→Er}(hb:Body Tryz.prog au g args (T3 p E k st cn sn o1 o2) 3 (iy r0 (T4 p E' k' Yy YQ Yz o3 o4) (3+2)))(h1:trees o1.cells=true)(h2:trees o2.cells=true)(h3:trees o3.cells=true)(h4:trees o4.cells=true)(Q2:4<nx)(hH:hO H [0,3,4] nx=true)
  (hi:ops[i]? = Option.some o) (hd:aZ nt o.dst=true) (hg:bN ops ⟨e,(0,fj p E k st 3 cn 4 sn)::(3,o1)::(4,o2)::H,nx⟩ o=Option.some true) (hu:cc o=Option.some cl) (Qb:bl ⟨e,(0,fj p E k st 3 cn 4 sn)::(3,o1)::(4,o2)::H,nx⟩ cl=Option.some (g,args)) (PT:args.all okW=true) (ht:tree r0=true) (hv:Au dyn res i [0,3,4]=true)
  (hK:uF W dyn res i (iZ r0 [0,3,4] [0,3,4,nx,nx+1] 2 [(0,fj p E' k' Yy nx YQ (nx+1) Yz),(nx,o3),(nx+1,o4)])∧lV au W nt ops N dyn (CE Tryz.prog au W nt ops N dyn K) r (note dyn res i (iZ r0 [0,3,4] [0,3,4,nx,nx+1] 2 [(0,fj p E' k' Yy nx YQ (nx+1) Yz),(nx,o3),(nx+1,o4)])) (St.put ⟨e,(0,fj p E' k' Yy nx YQ (nx+1) Yz)::(nx,o3)::(nx+1,o4)::H,nx+2⟩ o.dst r0)) :
  RX Tryz.prog au W nt ops N dyn K (i::r) res ⟨e,(0,fj p E k st 3 cn 4 sn)::(3,o1)::(4,o2)::H,nx⟩:=by
 have PL:dy ((0,fj p E k st 3 cn 4 sn)::(3,o1)::(4,o2)::H) [0,3,4]=H:=pA [0,3,4] H nx hH;refine RX.uJ [0,3,4] [0,3,4] [0,3,4,nx,nx+1] 3 2 hb rfl (JK nx Q2) hi hd hg hu yBy (by simp only[rn_T h1 h2];rfl) (tW yA PT) (Lo h1 h2) ht hv ?_ (fun q hq hn=>(hn (List.mem_append_left [nx,nx+1] hq)).elim) ?_
 ·simp only[CF h3 h4];have e1:¬ 0=nx:=by omega
  have e2:¬ 3=nx:=by omega
  simp[assoc,e1]
 ·simp only[CF h3 h4,PL];exact hK
def Ou (c:List In)(cs:List CV):Ob:=⟨85,12,c.flatMap dd++cs⟩
theorem vB (c:List In){cs:List CV}(h:trees cs=true):trees (Ou c cs).cells=true:=by simp only[Ou,bF,b9,h];rfl
theorem tz (p:Pg)(E:List En)(k st:Nat)(c:List In)(s:List Nat)(cs:List CV)(Ql:cs.length=12)(R0:trees cs=true)(n:Nat)(hN:c.length≤10000)(hM:s.length≤10000) :
  Body Tryz.prog au 204 [.av 0 0,.agg cs,I n] (T3 p E k st c.length s.length (eC c) (fz s)) 3 (iy (I c.length) (T4 p E k st (c.length+1) (s.length+1) (Ou c cs) (fz (s++[n]))) (3+2)):=by
 have:=Md p E k st (c.flatMap dd) c.length (yn c) (b9 c) (s.map fun n:Nat=>I n) s.length zX (aQ s) hN hM cs Ql R0 n
 simpa only[T3,T4,Ou,fz,eC,List.map_append,List.map_cons,List.map_nil] using this
theorem Me (p:Pg)(E:List En)(k st:Nat)(c:List In)(s:List Nat)(N M:Nat)(h1:N=c.length)(h2:M=s.length)(cs:List CV)(Ql:cs.length=12)(R0:trees cs=true)(n:Nat)(hN:N≤10000)(hM:M≤10000) :
  Body Tryz.prog au 204 [.av 0 0,.agg cs,I n] (T3 p E k st N M (eC c) (fz s)) 3 (iy (I N) (T4 p E k st (N+1) (M+1) (Ou c cs) (fz (s++[n]))) (3+2)):=by
 subst h1 h2;exact tz p E k st c s cs Ql R0 n hN hM
theorem iW (c:List In)(cs:List CV)(x:In)(h:cs.map nz=dd x):(c.flatMap dd++cs).map nz=(c++[x]).flatMap dd:=by simp[pb,h]
end
theorem n9 (E0:List En)(l:List Sm)(i:Nat):((bE E0 l i).all fun x=>Bz x.2)=true:=by
 simp[bE,Bz,tree]
theorem oa (E0:List En)(l:List Sm)(i:Nat):∀ x∈bE E0 l i,x.2≠CV.av 5 0:=by
 simp[bE]
@[simp] theorem Jm (p:Pg)(E:List En)(k st a cl b sl n:Nat):(fj p E k st a cl b sl).cells.all (a7 n)=(decide (a<n) && decide (b<n)):=by
 obtain⟨t1,t2,t3⟩:=iA p;have t4:tree (.az (E.flatMap gN) E.length)=true:=by simp only[tree]
 simp only[fj,List.all_cons,List.all_nil,a6 n _ t1,a6 n _ t2,a6 n _ t3,a6 n _ t4,Bool.true_and];simp[a7]
@[simp] theorem scO_ltS (p:Pg)(E:List En)(k st a cl b sl n:Nat):aS n (fj p E k st a cl b sl).cells=(decide (a<n) && decide (b<n)):=by rw[cr];exact Jm p E k st a cl b sl n
@[simp] theorem Ic (c:List In)(n:Nat):(eC c).cells.all (a7 n)=true:=af (b9 c) n
@[simp] theorem Gp (s:List Nat)(n:Nat):(fz s).cells.all (a7 n)=true:=af (aQ s) n
@[simp] theorem coOb_ltS (c:List In)(n:Nat):aS n (eC c).cells=true:=by rw[cr];exact Ic c n
@[simp] theorem siOb_ltS (s:List Nat)(n:Nat):aS n (fz s).cells=true:=by rw[cr];exact Gp s n
@[simp] theorem coOb_frz (c:List In)(o:Nat)(cs:List CV)(n:Nat):(eC c).cells.map (cB o cs n)=(eC c).cells:=cW (b9 c) o cs n
@[simp] theorem siOb_frz (s:List Nat)(o:Nat)(cs:List CV)(n:Nat):(fz s).cells.map (cB o cs n)=(fz s).cells:=cW (aQ s) o cs n
@[simp] theorem coOb_eta (c:List In):(⟨(eC c).elem,(eC c).sz,(eC c).cells⟩:Ob)=eC c:=rfl
@[simp] theorem siOb_eta (s:List Nat):(⟨(fz s).elem,(fz s).sz,(fz s).cells⟩:Ob)=fz s:=rfl
def MZ (p:Pg)(E0:List En)(l:List Sm)(i:Nat)(E:List En)(k st:Nat)(c:List In)(s:List Nat)(cs:List CV)(n:Nat):St:=
 ⟨mE E0 l i n,[(0,fj p E k st 3 c.length 4 s.length),(3,eC c),(4,fz s),(5,⟨265,0,cs⟩)],6⟩
set_option maxHeartbeats 4000000 in
theorem Kj {C:Cx}{Q:Exit→St→Prop}(hC:C.nt=253)(PN:C.n0=3)(p:Pg)(E0:List En)(l:List Sm)(i:Nat){g:Nat}{fs:List (ByteArray×List Pm)}{ps:List Pm}{V:List ByteArray}(E:List En)(k st:Nat)(c:List In)(s:List Nat)(n:Nat)
  (hE:EW g p.ms fs ps V E k) (hl:E.length≤100000) (hm:p.ms.length≤1000) (hc:c.length≤9000) (hs:s.length≤9000) (u:Bool) (r:Rf) (hr:FC p.ms ps V r) :
  T Tryz.prog C (iQ Tryz.f203 2) (MS p E0 l i E k st c s (.di u r) n) (thenS (aa C (fun z=>z=NS p E0 l i E k st (c++[.lock u (xG E r)]) (s++[n]))) Q):=by
 have hb:=C9 p E k st c.length s.length hE hl hm n r hr;obtain⟨b1,b2,b3,b4,hp,ht⟩:=GR (xG E r);obtain⟨a1,a2,a3,Zw,Zh⟩:=LZ r;have P4:dd (.lock u (xG E r))=[I (if u then 5 else 4),I 0,.bool false,I 0,I 0,.str eS,.az [] 0,.bool b1,I b2,.az b3 b4,.az [] 0,.az [] 0]:=by simp[dd,hp,bK]
 rw[hp,Zw] at hb;apply T.block;have R7:gM (.di u r)=[I (if u then 6 else 5),.str eS,I 0,I 0,.str eS,.az [] 0,.str a1,.az a2 a3,.az [] 0,.az [] 0,.az [] 0]:=by simp[gM,Zw,bK]
 simp only[MS,mE,mH,Hq,R7]
 cases u with
 | false=>
  apply aj;simp[hC];refine bh ?_;simp;apply aj;simp[hC];refine bh ?_;simp;apply aU;simp[hC];refine bh ?_;simp;apply aW;simp[hC];refine bh ?_;simp;apply aj;simp[hC];refine fx ?_;simp;apply aW;simp[hC];refine TL.gu (hb) yA rfl PV rfl rfl Ss Sv Su (TL.go' ah ?_);simp[hC];refine TL.gK (tz p E k st c s [I 4,I 0,.bool false,I 0,I 0,.str eS,.ai,.bool b1,I b2,.az b3 b4,.ai,.ai] rfl (by simp[trees,tree]) n yA yA) R5 (aQ _) R5 (aQ _) yA rfl PV rfl rfl Ss Sv Su (TL.go' ah ?_);simp;refine aa.le (kf PN [5,4,0,1] 6 7 (e:=bE E0 l i) rfl (n9 _ _ _) (oa _ _ _) rfl rfl rfl rfl (iW _ _ (.lock false (xG E r)) (by simp[P4])) rfl zX zX) (aa.here rfl)
 | true=>
  apply aj;simp[hC];refine bh ?_;simp;apply aj;simp[hC];refine bh ?_;simp;apply aU;simp[hC];refine bh ?_;simp;apply aW;simp[hC];refine bh ?_;simp;apply aj;simp[hC];refine bh ?_;simp;apply aj;simp[hC];refine fx ?_;simp;apply aW;simp[hC];refine TL.gu (hb) yA rfl PV rfl rfl Ss Sv Su (TL.go' ah ?_);simp[hC];refine TL.gK (tz p E k st c s [I 5,I 0,.bool false,I 0,I 0,.str eS,.ai,.bool b1,I b2,.az b3 b4,.ai,.ai] rfl (by simp[trees,tree]) n yA yA) R5 (aQ _) R5 (aQ _) yA rfl PV rfl rfl Ss Sv Su (TL.go' ah ?_);simp;refine aa.le (kf PN [5,4,0,1] 6 7 (e:=bE E0 l i) rfl (n9 _ _ _) (oa _ _ _) rfl rfl rfl rfl (iW _ _ (.lock true (xG E r)) (by simp[P4])) rfl zX zX) (aa.here rfl)
set_option maxHeartbeats 4000000 in
theorem M8 {C:Cx}{Q:Exit→St→Prop}(hC:C.nt=253)(PN:C.n0=3)(p:Pg)(E0:List En)(l:List Sm)(i:Nat)(E:List En)(k st:Nat)(c:List In)(s:List Nat)(n:Nat)
  (hc:c.length≤9000) (hs:s.length≤9000) :
  T Tryz.prog C (iQ Tryz.f203 2) (MS p E0 l i E k st c s .jb n) (thenS (aa C (fun z=>z=NS p E0 l i E k st (c++[.ret]) (s++[n]))) Q):=by
 apply T.block;simp only[MS,mE,mH,Hq,gM];apply aj;simp[hC];refine bh ?_;simp;apply aj;simp[hC];refine bh ?_;simp;apply aU;simp[hC];refine bh ?_;simp;apply aW;simp[hC];refine bh ?_;simp;apply aj;simp[hC];refine bh ?_;simp;apply aj;simp[hC];refine bh ?_;simp;apply aj;simp[hC];refine bh ?_;simp;apply aj;simp[hC];refine bh ?_;simp;apply aW;simp[hC];refine TL.gK (tz p E k st c s [I 8,I 0,.bool false,I 0,I 0,.str eS,.ai,.bool false,I 0,.ai,.ai,.ai] rfl rfl n yA yA) R5 (aQ _) R5 (aQ _) yA rfl PV rfl rfl Ss Sv Su (TL.go' ah ?_);simp;refine aa.le (kf PN [5,4,0,1] 6 7 (e:=bE E0 l i) rfl (n9 _ _ _) (oa _ _ _) rfl rfl rfl rfl (iW _ _ (.ret) (by simp[dd,bK,qL])) rfl zX zX) (aa.here rfl)
set_option maxHeartbeats 4000000 in
theorem Kk {C:Cx}{Q:Exit→St→Prop}(hC:C.nt=253)(PN:C.n0=3)(p:Pg)(E0:List En)(l:List Sm)(i:Nat){g:Nat}{ps:List Pm}{V:List ByteArray}(E:List En)(k st:Nat)(c:List In)(s:List Nat)(n:Nat)
  (hE:EW g p.ms (p.fs.map fun f=>(f.name,f.params)) ps V E k) (hl:E.length≤100000) (hm:p.ms.length≤1000) (Qv:p.fs.length≤1000) (hc:c.length≤9000) (hs:s.length≤9000) (go:Bool) (nm:ByteArray) (gp:List Pm) (al:List Ar)
  (hg:(nm,gp)∈p.fs.map fun f=>(f.name,f.params)) (hw:iR p.ms ps V gp al) (UJ:gp.length≤1000) :
  T Tryz.prog C (iQ Tryz.f203 2) (MS p E0 l i E k st c s (.dI go nm al) n) (thenS (aa C (fun z=>z=NS p E0 l i E k st (c++[.call go (kW E nm).n (cR E al) (er E al)]) (s++[n]))) Q):=by
 have hb:=Hp p E k st c.length s.length hE hl hm Qv n go nm gp al hg hw UJ;have R9:=eE (.call go (kW E nm).n (cR E al) (er E al));have lin:=fo (.call go (kW E nm).n (cR E al) (er E al));have nin:=G3 (.call go (kW E nm).n (cR E al) (er E al));have tsm:=gV (.dI go nm al);have lsm:=jR (.dI go nm al);generalize hX:dd (.call go (kW E nm).n (cR E al) (er E al))=X at hb R9 lin nin;have hS:gM (.dI go nm al)=oc (if go=true then 4 else 3) nm al:=rfl;rw[hS] at hb;apply T.block;simp only[MS,mE,mH,Hq,hS,oc];simp only[oc] at hb
 cases go with
 | false=>
  apply aj;simp[hC];refine bh ?_;simp;apply aj;simp[hC];refine bh ?_;simp;apply aU;simp[hC];refine gQ ?_;simp;refine fx ?_;simp;apply aW;simp[hC];refine TL.gu (hb) yA rfl PV rfl rfl Ss Sv Su (TL.go' ah ?_);simp[hC];refine TL.gK (tz p E k st c s X lin R9 n yA yA) R5 (aQ _) R5 (aQ _) yA rfl PV rfl rfl Ss Sv Su (TL.go' ah ?_);simp;refine aa.le (kf PN [5,4,0,1] 6 7 (e:=bE E0 l i) rfl (n9 _ _ _) (oa _ _ _) rfl rfl rfl rfl (iW _ _ (.call false (kW E nm).n (cR E al) (er E al)) (by simp[nin,hX])) rfl zX zX) (aa.here rfl)
 | true=>
  apply aj;simp[hC];refine bh ?_;simp;apply aj;simp[hC];refine bh ?_;simp;apply aU;simp[hC];refine bh ?_;simp;apply aW;simp[hC];refine fx ?_;simp;apply aW;simp[hC];refine TL.gu (hb) yA rfl PV rfl rfl Ss Sv Su (TL.go' ah ?_);simp[hC];refine TL.gK (tz p E k st c s X lin R9 n yA yA) R5 (aQ _) R5 (aQ _) yA rfl PV rfl rfl Ss Sv Su (TL.go' ah ?_);simp;refine aa.le (kf PN [5,4,0,1] 6 7 (e:=bE E0 l i) rfl (n9 _ _ _) (oa _ _ _) rfl rfl rfl rfl (iW _ _ (.call true (kW E nm).n (cR E al) (er E al)) (by simp[nin,hX])) rfl zX zX) (aa.here rfl)
set_option maxHeartbeats 4000000 in
theorem Na {C:Cx}{Q:Exit→St→Prop}(hC:C.nt=253)(PN:C.n0=3)(p:Pg)(E0:List En)(l:List Sm)(i:Nat){g:Nat}{fs:List (ByteArray×List Pm)}{ps:List Pm}{V:List ByteArray}(E:List En)(k st:Nat)(c:List In)(s:List Nat)(n:Nat)
  (hE:EW g p.ms fs ps V E k) (hl:E.length≤100000) (hc:c.length≤9000) (hs:s.length≤9000) (nm:ByteArray) (x:Ex) (hn:nm∈V) (hx:fc V 2 x) :
  T Tryz.prog C (iQ Tryz.f203 2) (MS p E0 l i E k st c s (.hD nm x) n) (thenS (aa C (fun z=>z=NS p E0 l i E k st (c++[.set (kW E nm).n (decide ((kW E nm).kind=1)) (dA E x)]) (s++[n]))) Q):=by
 obtain⟨kd,j,hf,hkd⟩:=hE.v nm hn;have hv:=qF p E k st c.length s.length hl nm _ hf (by simp only;omega) n;rw[gG hf];have hb:=jC p E k st c.length s.length hE hl n 2 x hx;obtain⟨a1,a2,a3,a4,a5,ha,Zh⟩:=kz x;obtain⟨b1,b2,b3,b4,b5,P5,htb⟩:=kz (dA E x);have P4:dd (.set j (decide (kd=1)) (dA E x))=[I 1,I j,.bool (decide (kd=1)),I b1,I b2,.str b3,.az b4 b5,.bool false,I 0,.az [] 0,.az [] 0,.az [] 0]:=by simp[dd,P5,qL]
 have R7:gM (.hD nm x)=[I 2,.str nm,I a1,I a2,.str a3,.az a4 a5,.str eS,.az [] 0,.az [] 0,.az [] 0,.az [] 0]:=by simp[gM,ha,ke]
 rw[ha,P5] at hb;have VC:((kd:Int) == 1)=decide (kd=1):=by rcases hkd with ⟨rfl,_⟩ | ⟨rfl,_⟩<;>rfl
 apply T.block;simp only[MS,mE,mH,Hq,R7];apply aj;simp[hC];refine bh ?_;simp;apply aj;simp[hC];refine fx ?_;simp;apply aj;simp[hC];refine TL.gu (hv) yA rfl PV rfl rfl Ss Sv Su (TL.go' ah ?_);simp[hC,gN];refine T.le (Le.trim [6,7,5,4,0,1,11] [0,3,4,5,6] 7 SK yA) ?_;simp;refine T.rx ah follows [0,1,2,3,4,5,6,7,8,9,12,10,11,13] [(2,10),(4,10)] PH ?_;simp[hC];refine RX.gu (hb) yA rfl rfl zX rfl rfl Ss Sv Su zX ?_;simp;refine RX.gK (tz p E k st c s [I 1,I j,.bool (decide (kd=1)),I b1,I b2,.str b3,.az b4 b5,.bool false,I 0,.ai,.ai,.ai] rfl yB n yA yA) R5 (aQ _) R5 (aQ _) yA rfl rfl zX rfl rfl Ss Sv Su zX ?_;simp;refine aa.le (kf PN [5,4,0,1] 21 22 (e:=bE E0 l i) rfl (n9 _ _ _) (oa _ _ _) rfl rfl rfl rfl (iW _ _ (.set j (decide (kd=1)) (dA E x)) (by simp[P4])) rfl zX zX) (aa.here rfl)
set_option maxHeartbeats 4000000 in
theorem M7 {C:Cx}{Q:Exit→St→Prop}(hC:C.nt=253)(PN:C.n0=3)(p:Pg)(E0:List En)(l:List Sm)(i:Nat){g:Nat}{fs:List (ByteArray×List Pm)}{ps:List Pm}{V:List ByteArray}(E:List En)(k st:Nat)(c:List In)(s:List Nat)(n:Nat)
  (hE:EW g p.ms fs ps V E k) (hl:E.length≤90000) (hk:k≤9000) (hc:c.length≤9000) (hs:s.length≤9000) (nm:ByteArray) (x:Ex) (hn:iu E nm=none) (hx:fc V 2 x) :
  T Tryz.prog C (iQ Tryz.f203 2) (MS p E0 l i E k st c s (.gA nm x) n) (thenS (aa C (fun z=>z=NS p E0 l i (E++[⟨nm,4,k⟩]) (k+1) st (c++[.set k false (dA E x)]) (s++[n]))) Q):=by
 have hb:=jC p E k st c.length s.length hE yA n 2 x hx;have SU:=pw E nm yA;rw[hn] at SU;obtain⟨a1,a2,a3,a4,a5,ha,Zh⟩:=kz x;obtain⟨b1,b2,b3,b4,b5,P5,htb⟩:=kz (dA E x);have P4:dd (.set k false (dA E x))=[I 1,I k,.bool false,I b1,I b2,.str b3,.az b4 b5,.bool false,I 0,.az [] 0,.az [] 0,.az [] 0]:=by simp[dd,P5,qL]
 have R7:gM (.gA nm x)=[I 1,.str nm,I a1,I a2,.str a3,.az a4 a5,.str eS,.az [] 0,.az [] 0,.az [] 0,.az [] 0]:=by simp[gM,ha,ke]
 rw[ha,P5] at hb;apply T.block;simp only[MS,mE,mH,Hq,R7];apply aj;simp[hC];refine fx ?_;simp;refine T.seq (T.seq ?_);refine T.rx ah follows [0,1,2,3,4,5,10,6,7,8,9,11,12] [(3,10),(5,10),(10,6)] PH ?_;simp[hC,fj];refine RX.call rfl zX rfl rfl rfl P2 (SU) ?_;simp[pv];apply aj;simp[hC];refine gO ?_;simp;refine T.le (Le.to (s':=MZ p E0 l i E k st c s [I 1,.str nm,I a1,I a2,.str a3,.az a4 a5,.str eS,.az [] 0,.az [] 0,.az [] 0,.az [] 0] n) [6,7,5,4,0,1] [0,3,4,5] 6 SK yA rfl) ?_;simp only[MZ,mE];apply aj;simp[hC];refine TL.gu (hb) yA rfl PV rfl rfl Ss Sv Su (TL.go' ah ?_);simp[hC];refine T.le (Le.trim [6,7,5,4,0,1,10] [0,3,4,5,6] 7 SK yA) ?_;simp;apply T.seq;refine T.rx ah follows [0,1,2,3,4,5,6,7,8] [] PH ?_;simp[hC,fj];refine RX.gK (tz p E k st c s [I 1,I k,.bool false,I b1,I b2,.str b3,.az b4 b5,.bool false,I 0,.ai,.ai,.ai] rfl yB n yA yA) R5 (aQ _) R5 (aQ _) yA rfl rfl zX rfl rfl Ss Sv Su zX ?_;simp;refine T.le (jd PN [6,7,5,4,0,1] 16 17 (e:=mE E0 l i n) rfl Wk rfl rfl rfl rfl rfl yB (iW _ _ (.set k false (dA E x)) (by simp[P4])) rfl zX zX) ?_;simp only[mE];have f1:=bk (f:=gN) (n:=3) jW E;have TQ:E.length*32≤140737488355328:=by omega
 have UQ:(E.length+1)*32≤140737488355328:=by omega
 apply T.seq;refine T.rx ah follows [0,1,2,3,4,5,6,7,8,9,10,11,12,13,14,15,16,17,18] [(1,5),(1,8),(1,12),(1,14),(5,14),(6,8),(6,12),(6,14)] PH ?_;simp[hC,fj,f1,TQ,UQ,aX];have wk:=cE ((k:Int)+1) yA yA;have tn:trees (E.flatMap gN++[.str nm,I 4,I k])=true:=by rw[bF,cj];rfl
 have tk:List.take ((E.length+1)*3) (E.flatMap gN++[.str nm,I 4,I k])=E.flatMap gN++[.str nm,I 4,I k]:=List.take_of_length_le (by simp only[List.length_append,f1,List.length_cons,List.length_nil];omega);have q1:=af (iD p.gs);have q2:=af (eT p.ms);have q3:=af (cF p.fs);have q4:=af (cj E);have q5:=af (cj E0);have q6:=af (bC l);apply aW;simp[hC,wk];refine aa.le (Le.trim [5,4,0,1] [0,26,3,4] 27 (by simp[-List.all_eq_true,-List.all_flatMap,q4]) yA) ?_;simp;refine aa.le (Le.dz (o:=26) rfl tn) ?_;simp[tk];refine aa.trim [5,4,0,1] [0,3,4] 5 SK yA ?_;simp[NS,bE,fj,gN]
end Go.Proofs.YtnecpnjdonibmaaGreat
