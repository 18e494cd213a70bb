/-  -/
import Derived.Test.YtnecpnjdonibmaaGreatZ44
import Derived.StillTailTactics
import Derived.Lib.Walk
namespace Go.Proofs.YtnecpnjdonibmaaGreat
open Go Go.Proofs Go.Shelf Go.RowKit Go.Lib Go.Sort
def CQ:List Int→Int
 | []=>0
 | x::r=>if x≠0 then x else CQ r
theorem xM (zs:List Int):∀ k,(∀ j,j<k→zs.getD j 0=0)→CQ zs=CQ (zs.drop k)
 | 0,_=>by simp
 | k+1,h=>by
  match zs with
  | []=>simp
  | z::r=>
   have h0:=h 0 (by omega);simp at h0;simp only[List.drop_succ_cons];rw[← xM r k (fun j hj=>by simpa using h (j+1) (by omega))];simp[CQ,h0]
set_option maxHeartbeats 1000000 in
theorem or102 (b:Nat)(zs:List Int)(w:World)(hn:zs.length≤100)(hc:∀ j,j<zs.length→w.cell? ⟨b,j,none⟩=some (.int .i64 (zs.getD j 0))) :
  Calls Tryz.prog 102 #[.slice (some ⟨b,0,none⟩) zs.length zs.length] w fun e w'=>e=.returned (.int .i64 (CQ zs))∧w'=w:=by
 go_enter Tryz.func102,Tryz.ntmps102
 go_wp2
 go_loop [5,8] (fun _ i=>∃ k:Nat,k≤zs.length∧i=.int .i64 k∧∀ j,j<k→zs.getD j 0=0) (fun _ i=>match i with | .int _ m=>zs.length-m.toNat | _=>0)
 case atStart=>exact⟨0,Nat.zero_le _,rfl,fun j hj=>absurd hj (Nat.not_lt_zero _)⟩
 case round=>
  obtain⟨k,hk,rfl,P3⟩:=hrel;have Q8:k<zs.length→w.cell? ⟨b,k,none⟩=some (.int .i64 (zs.getD k 0)):=fun _=>hc k (by omega)
  go_wp2
  ·have PQ:k<zs.length:=by assumption
   have heq:(zs[k] != 0)=true:=by assumption
   go_ret
   refine⟨?_,rfl⟩;rw[xM zs k P3,List.drop_eq_getElem_cons PQ];simp[CQ,show zs[k]≠0 by simpa using heq]
  ·have PQ:k<zs.length:=by assumption
   have heq:(zs[k] != 0)=false:=by assumption
   refine⟨⟨k+1,by omega,by norm_cast,fun j hj=>?_⟩,by simp;omega⟩;by_cases e:j=k
   ·subst e
    simpa [PQ] using heq
   ·exact P3 j (by omega)
  ·have SE:¬ k<zs.length:=by assumption
   have:k=zs.length:=by omega
   subst this
   go_ret
   refine⟨?_,rfl⟩;rw[xM zs _ P3];simp[CQ]
abbrev E4:=Nat×Nat×Nat×Nat
def MT (x:E4):List Value:=[.int .i64 (x.1 % 65536:Nat),.int .i64 (x.2.1 % 65536:Nat),.int .i64 (x.2.2.1 % 65536:Nat),.int .i64 (x.2.2.2 % 65536:Nat)]
def y6 (a b:Nat):Int:=((a % 65536:Nat):Int)-(b % 65536:Nat)
def IX (x y:E4):Int:=CQ [y6 x.1 y.1,y6 x.2.1 y.2.1,y6 x.2.2.1 y.2.2.1,y6 x.2.2.2 y.2.2.2]
theorem Nl (W:World)(a b c:Obj):((W.alloc a).alloc b).alloc c=grow (W.drewN 0) (#[a]++#[b]++#[c]):=by
 rw[alloc_eq_grow,alloc_eq_grow,alloc_eq_grow,grow_grow,grow_grow];rfl
theorem or4 (n:Nat)(W0:World)(a b c d:Int)(hn:n=W0.heap.size):Calls Tryz.prog 102 #[.slice (some ⟨n,0,none⟩) 4 4] (W0.alloc (Obj.cells #[.int .i64 a,.int .i64 b,.int .i64 c,.int .i64 d] 3)) fun e w'=>e=.returned (.int .i64 (CQ [a,b,c,d]))∧w'=W0.alloc (Obj.cells #[.int .i64 a,.int .i64 b,.int .i64 c,.int .i64 d] 3):=
 hn ▸ or102 W0.heap.size [a,b,c,d] _ (by simp) (by
  intro j hj
  match j,hj with
  | 0,_=>exact World.cell?_alloc_new ..
  | 1,_=>exact World.cell?_alloc_new ..
  | 2,_=>exact World.cell?_alloc_new ..
  | 3,_=>exact World.cell?_alloc_new ..)
set_option maxHeartbeats 4000000 in
theorem Nc (x y:E4)(W:World):Calls Tryz.prog 101 #[.agg (MT x).toArray,.agg (MT y).toArray] W fun e w'=>e=.returned (.int .i64 (IX x y))∧∃ q os',w'=grow (W.drewN q) os':=by
 have hcon:=or4;unfold MT IX
 go_enter Tryz.func101,Tryz.ntmps101
 go_wp2_with (go_at_call 102;refine (hcon _ _ _ _ _ _ (by simp)).mono ?_;rintro e w' ⟨rfl,rfl⟩)
 go_ret
 exact⟨rfl,0,_,Nl _ _ _ _⟩
end Go.Proofs.YtnecpnjdonibmaaGreat
namespace Go.Can
open Go.RowKit Go.Shelf
section
variable {P:Program}{C:Cx}{σ:Nat→Option OB}{s:St}{a:Act}{w:World}{ops:Array Oper}{au:List (Nat×TI)}{ρ:Ren}
theorem Fi {F:Nat→Prop}(ds:List Int):aN w F σ (ds.map fun n=>.int .i64 n) (ds.map (Value.int .i64)):=by
 induction ds with
 | nil=>rfl
 | cons d r ih=>
  simp only[List.map_cons,aN];exact⟨_,_,rfl,dn _ _,ih⟩
theorem pU {F:Nat→Prop}:∀ (ds:List Int) (vs:List Value),aN w F σ (ds.map fun n=>.int .i64 n) vs→vs=ds.map (Value.int .i64)
 | [],vs,h=>by simpa only[List.map_nil,aN] using h
 | d::r,vs,h=>by
  simp only[List.map_cons,aN] at h;obtain⟨v,us,rfl,h1,h2⟩:=h;rw[pU r us h2];simp only[VR] at h1;rw[h1];rfl
theorem By (ds:List Int):(ds.map fun n=>CV.int .i64 n).all one=true:=List.all_eq_true.2 fun x hx=>by
 obtain⟨n,_,rfl⟩:=List.mem_map.1 hx;rfl
theorem AJ {F:Nat→Prop}:VR w F σ (.dH []) (.tuple #[]):=by
 simp only[VR];exact⟨[],rfl,rfl⟩
theorem BO {g : Nat} {fn : Func} (h : P.funcs[g]? = Option.some fn) (h1 : (fn.name == "runtime.NumGoroutine") = false) (h2 : fn.body.isNone = false) : Enters P g := ⟨fn, h, h1, h2⟩
theorem aL.rowK (h:aL C σ s a w){q:Nat}{el:TypeId}{sz:Nat}{zs ds:List Int}{B:OB}{b:Nat}(ho:assoc s.heap q=Option.some ⟨el,sz,zs.map fun n=>.int .i64 n⟩)(hB:σ q=Option.some B)(hb:B.iQ=Option.some b)(hl:ds.length=zs.length){n:Nat}{os:Array Obj}{w':World}(hw:w'=Sort.grow (Sort.putRow id (Sort.ahead w n) b 0 (ds.map (Value.int .i64)).toArray) os) :
  aL C σ { s with heap:=oM s.heap q ⟨el,sz,ds.map fun n=>.int .i64 n⟩ } a w':=by
 obtain⟨B',e1,e2,e3,e4,e5⟩:=h.obj q _ ho;rw[hB] at e1;cases e1;obtain⟨cur,k1,k2,k3,k4,k5,k6⟩:=e5 b hb;simp only[List.length_map] at k5;have TW:=h.write ho hB hb (Rs:=ds.map fun n=>.int .i64 n) (U9:=ds.map (Value.int .i64)++cur.toList.drop zs.length) Ru zX (by
  have:List.take (ds.map fun n=>CV.int .i64 n).length (ds.map (Value.int .i64)++cur.toList.drop zs.length)=ds.map (Value.int .i64):=by
   rw[show (ds.map fun n=>CV.int .i64 n).length=(ds.map (Value.int .i64)).length by simp,List.take_left]
  rw[this];exact Fi ds) (By ds)
 refine TW.below ?_;subst hw;refine⟨rfl,rfl,rfl,by simp[Sort.grow,Sort.putRow,Sort.mapBlock,Sort.ahead],fun k hk=>?_⟩;rw[size_setRow] at hk;have hg:(Sort.grow (Sort.putRow id (Sort.ahead w n) b 0 (ds.map (Value.int .i64)).toArray) os).heap[k]? = (w.heap.modify b (Sort.onCells (Sort.putCells id 0 (ds.map (Value.int .i64)).toArray)))[k]?:=by
  simp only[Sort.grow,Sort.putRow,Sort.mapBlock,Sort.ahead];rw[Array.getElem?_append_left (by simpa using hk)]
 rw[hg,Array.getElem?_modify];by_cases X2:b=k
 ·subst X2;rw[if_pos rfl,setRow_heap w b cur _ _ _ k1,k1];simp only[Option.map_some,Sort.onCells];congr 2;apply Array.ext_getElem?;intro i;simp only[Sort.putCells,Array.getElem?_mapIdx,List.getElem?_toArray,List.size_toArray,Nat.zero_le,true_and,Nat.zero_add,Nat.sub_zero,List.length_map];by_cases hi:i<ds.length
  ·rw[List.getElem?_append_left WV];have hic:i<cur.size:=by omega
   rw[Array.getElem?_eq_getElem hic];simp[hi]
  ·rw[List.getElem?_append_right Ru];simp only[List.length_map,List.getElem?_drop,Array.getElem?_toList];rw[show zs.length+(i-ds.length)=i by omega];cases cur[i]?<;>simp[hi]
 ·rw[if_neg X2,setRow_other w b k _ (fun e=>X2 e.symm)]
theorem aL.MO (h:aL C σ s a w){q:Nat}{el:TypeId}{sz:Nat}{zs:List Int}{B:OB}{b:Nat}(ho:assoc s.heap q=Option.some ⟨el,sz,zs.map fun n=>.int .i64 n⟩)(hB:σ q=Option.some B)(hb:B.iQ=Option.some b):Sort.Holds id w b 0 (zs.map (Value.int .i64)).toArray∧b<w.heap.size:=by
 obtain⟨B',e1,e2,e3,e4,e5⟩:=h.obj q _ ho;rw[hB] at e1;cases e1;obtain⟨cur,k1,k2,k3,k4,k5,k6⟩:=e5 b hb;simp only[List.length_map] at k5 k6;have hk:=pU zs _ k6;refine⟨fun j hj=>?_,(Array.getElem?_eq_some_iff.1 k1).1⟩;simp only[List.size_toArray,List.length_map] at hj;rw[Nat.zero_add];constructor
 ·have h2:=congrArg (·[j]?) hk;simp only[List.getElem?_take,if_pos hj,List.getElem?_map,List.getElem?_eq_getElem hj,Option.map_some,Array.getElem?_toList] at h2;simp only[World.cell?,k1,h2];simp[hj]
 ·simp[World.frozen?,k1]
variable {α:Type}[Inhabited α]
theorem Dh (f:α→List Value)(k:Nat)(hk:∀ x,(f x).length=k):∀ (l:List α) (t:Nat),t<l.length*k→(l.flatMap f)[t]? = Option.some ((f l[t / k]!)[t % k]!)
 | [],t,h=>by simp at h
 | a::r,t,h=>by
  rw[List.flatMap_cons];have Xa:=hk a;by_cases ht:t<k
  ·rw[List.getElem?_append_left yA,Nat.div_eq_of_lt ht,Nat.mod_eq_of_lt ht];simp[Xa,ht]
  ·have h0:0<k:=by
    rcases Nat.eq_zero_or_pos k with e | e
    ·subst e;simp at h
    ·exact e
   rw[List.getElem?_append_right yA,Xa];have hr:t-k<r.length*k:=by
    rw[List.length_cons,Nat.add_mul] at h;omega
   rw[Dh f k hk r (t-k) hr];have e1:t / k=(t-k) / k+1:=by
    conv=>lhs;rw[show t=(t-k)+k by omega]
    rw[Nat.add_div_right _ h0]
   have e2:t % k=(t-k) % k:=by
    conv=>lhs;rw[show t=(t-k)+k by omega]
    rw[Nat.add_mod_right]
   rw[e1,e2];simp
theorem BM (f:α→List Value)(k:Nat)(hk:∀ x,(f x).length=k)(l:List α):Sort.flatK f k l.toArray=(l.flatMap f).toArray:=by
 have hlen:∀ m:List α,(m.flatMap f).length=m.length*k:=by
  intro m
  induction m with
  | nil=>simp
  | cons a r ih=>simp only[List.flatMap_cons,List.length_append,hk,ih,List.length_cons,Nat.add_mul];omega
 apply Array.ext
 ·simp only[Sort.size_flatK,List.size_toArray,hlen]
 ·intro t h1 h2;rw[Sort.size_flatK,List.size_toArray] at h1;have h3:=Dh f k hk l t h1;have h4:=Sort.get_flatK f k l.toArray t (by simpa using h1);rw[List.getElem?_eq_getElem (by rw[hlen];exact h1)] at h3;have h5:=Option.some.inj h3;simp only[List.getElem_toArray];rw[h5,← getElem!_pos,h4];simp
theorem TL.sortK (L:Go.Proofs.SlLaysF0.n6 P ρ)(k:Nat)(f:α→List Int)(hk:∀ x,(f x).length=k)(aE:∀ w,(isAgg (ρ.t 24)).run P w=.ok true w)(zE:∀ w,(Go.sizeOf (ρ.t 24)).run P w=.ok k w)(cf:α→α→Int)(hO:Sort.SWO (Go.Proofs.ltOf cf))(g:Nat)(eg:∀ args w,(callFunc g args).run P w=.ok (.enter g args) w)
  (hcmp:∀ iQ off size w,Go.Proofs.CmpLays P g #[] (fun x=>(f x).map (Value.int .i64)) k cf iQ off size w)
  {o:Oper} {l:List Oper} {c:Call} {K:St→Prop} {q:Nat} {el:TypeId} {zs:List α} (Wf:Enters P (ρ.f 6)) (hd:aZ C.nt o.dst=true) (hg:bN ops s o=Option.some true) (ho:o.op=.call c) (Qb:bl s c=Option.some (ρ.f 6,[.bj q 0 zs.length,.fn g []])) (Rh:assoc s.heap q=Option.some ⟨el,k,(zs.flatMap f).map fun n=>.int .i64 n⟩) (hzl:zs.length<4611686018427387904)
  (hK:∀ r:List α,r.Perm zs→r.Pairwise (fun x y=>Go.Proofs.ltOf cf y x=false)→TL P C ops l (St.put ⟨s.env,oM s.heap q ⟨el,k,(r.flatMap f).map fun n=>.int .i64 n⟩,s.nx⟩ o.dst (.dH [])) K):TL P C ops (o::l) s K:=by
 intro a w Q hr hQ;have hw:=dw hr hg;obtain⟨σ,hr⟩:=hr;unfold wpList;rw[if_pos hw];refine .inl ?_;obtain⟨vs,U6,Qs⟩:=nw.value ho Qb Wf σ a w hr;simp only[aN,VR] at Qs;obtain⟨v,r,rfl,⟨B,hB,hv⟩,r2,r3,rfl,⟨vs2,rfl,h6⟩,rfl⟩:=Qs;have h6':vs2=[]:=by simpa [aN] using h6
 subst h6';have Qi:∀ t,o.dst=Option.some t→t<a.tmps.size:=by
  intro t e;rw[hr.tm];rw[e] at hd
  simpa [aZ] using hd
 have he:∀ ds:List α,(fun x=>(f x).map (Value.int .i64))=(fun x=>(f x).map (Value.int .i64))∧Sort.flatK (fun x=>(f x).map (Value.int .i64)) k ds.toArray=((ds.flatMap f).map (Value.int .i64)).toArray:=fun ds=>⟨rfl,by
  rw[BM _ k (fun x=>by rw[List.length_map,hk]),List.map_flatMap]⟩
 have Qv:∀ m:List α,(m.flatMap f).length=m.length*k:=by
  intro m
  induction m with
  | nil=>simp
  | cons a r ih=>simp only[List.flatMap_cons,List.length_append,hk,ih,List.length_cons,Nat.add_mul];omega
 unfold Oper.wp;rw[U6];by_cases hz:zs.length=0
 ·have hz0:zs=[]:=List.length_eq_zero_iff.1 hz;subst hz0;have V3:∃ p cap,v=.slice p 0 cap:=by
   cases hblk:B.iQ with
   | none=>rw[hblk] at hv;exact⟨_,_,hv.1⟩
   | some b=>rw[hblk] at hv;obtain⟨cap,e,_⟩:=hv;exact⟨_,_,e⟩
  obtain⟨p,cap,rfl⟩:=V3;refine (Go.Proofs.AnyF.slices_SortFunc_none L p cap _ w).mono fun e w' ⟨he,Qr⟩=>?_;subst he;subst Qr;refine hK [] (List.Perm.refl _) List.Pairwise.nil _ _ Q ⟨σ,?_⟩ hQ;rw[sM _ _ _ Rh];exact hr.put Qi AJ
 ·cases hblk:B.iQ with
  | none=>rw[hblk] at hv;omega
  | some b=>
   rw[hblk] at hv;obtain⟨cap,rfl,c1,c2,c3,c4⟩:=hv;obtain⟨hH,Qf⟩:=hr.MO Rh hB hblk;rw[← (he zs).2] at hH;refine (Go.Proofs.AnyQ.slices_SortFunc L k aE zE (fun x=>(f x).map (Value.int .i64)) (fun x=>by rw[List.length_map,hk]) (fun x v hv=>by
    obtain⟨n,_,rfl⟩:=List.mem_map.1 hv;rfl) cf hO g #[] b 0 cap zs.toArray w eg (hcmp _ _ _ _) hH Qf (by simpa using hzl)).mono fun e w' ⟨he',d',n,os,hp,hs,Qr⟩=>?_
   subst he';obtain⟨p1,_,p3⟩:=hp;have Qk:d'=d'.toList.toArray:=by simp
   have YA:d'.toList.length=zs.length:=by simpa using p1
   have e1:d'.extract 0 zs.toArray.size=d':=by rw[← p1];exact Array.extract_size
   have e2:zs.toArray.extract 0 zs.toArray.size=zs.toArray:=Array.extract_size;rw[e1,e2] at p3;have Zd:w'=Sort.grow (Sort.putRow id (Sort.ahead w n) b 0 ((d'.toList.flatMap f).map (Value.int .i64)).toArray) os:=by
    rw[Qr,← (he d'.toList).2];unfold Go.Proofs.sortWorldK Sort.putRowK;simp
   refine hK d'.toList p3 ?_ _ _ Q ⟨σ,(hr.rowK Rh hB hblk (ds:=d'.toList.flatMap f) (by rw[Qv,Qv,YA]) Zd).put Qi AJ⟩ hQ;refine List.pairwise_iff_getElem.2 fun i j hi hj Tc=>?_;have h:=hs i j (Nat.zero_le _) Tc (by simpa [YA] using hj);simp only[Array.length_toList] at hi hj;rw[getElem!_pos d' i hi,getElem!_pos d' j hj] at h
   simpa using h
end
end Go.Can
namespace Go.Proofs.YtnecpnjdonibmaaGreat
open Go.Can Go.aP
def yL (x y:E4):Prop:=x.1<y.1∨(x.1=y.1∧(x.2.1<y.2.1∨(x.2.1=y.2.1∧(x.2.2.1<y.2.2.1∨(x.2.2.1=y.2.2.1∧x.2.2.2<y.2.2.2)))))
def Fx (x:E4):E4:=(x.1 % 65536,x.2.1 % 65536,x.2.2.1 % 65536,x.2.2.2 % 65536)
theorem orZ4 (p q r s:Int):CQ [p,q,r,s]<0↔p<0∨(p=0∧(q<0∨(q=0∧(r<0∨(r=0∧s<0))))):=by
 by_cases h1:p=0
 ·by_cases h2:q=0
  ·by_cases h3:r=0
   ·by_cases h4:s=0<;>simp[CQ,h1,h2,h3,h4]
   ·simp[CQ,h1,h2,h3]
  ·simp[CQ,h1,h2]
 ·simp[CQ,h1]
theorem Im (x y:E4):IX x y<0↔yL (Fx x) (Fx y):=by
 obtain⟨a,b,c,d⟩:=x;obtain⟨a',b',c',d'⟩:=y;simp only[IX,orZ4,yL,Fx,y6];omega
theorem Hj (x y:E4):ltOf IX x y=false↔¬ yL (Fx x) (Fx y):=by
 simp only[ltOf,Im,decide_eq_false_iff_not]
theorem My (x y:E4):ltOf IX x y=true↔yL (Fx x) (Fx y):=by
 simp only[ltOf,Im,decide_eq_true_iff]
theorem swo4:Sort.SWO (ltOf IX) where
 irrefl x:=by
  rw[Hj,yL];omega
 trans x y z:=by
  simp only[My,yL];omega
 ntrans x y z:=by
  simp only[Hj,yL];omega
def b4 (x:E4):Prop:=x.1<65536∧x.2.1<65536∧x.2.2.1<65536∧x.2.2.2<65536
theorem md4_b {x:E4}(h:b4 x):Fx x=x:=by
 obtain⟨a,b,c,d⟩:=x;obtain⟨h1,h2,h3,h4⟩:=h;simp only[Fx,Nat.mod_eq_of_lt h1,Nat.mod_eq_of_lt h2,Nat.mod_eq_of_lt h3,Nat.mod_eq_of_lt h4]
theorem Hk {x y:E4}(h:¬ yL x y)(k:¬ yL y x):x=y:=by
 obtain⟨a,b,c,d⟩:=x;obtain⟨a',b',c',d'⟩:=y;simp only[yL] at h k;have h1:a=a':=by omega
 have h2:b=b':=by omega
 have h3:c=c':=by omega
 have h4:d=d':=by omega
 rw[h1,h2,h3,h4]
def f4 (x:E4):List Int:=[(x.1 % 65536:Nat),(x.2.1 % 65536:Nat),(x.2.2.1 % 65536:Nat),(x.2.2.2 % 65536:Nat)]
def yj (x:E4):List CV:=[I x.1,I x.2.1,I x.2.2.1,I x.2.2.2]
theorem yi (x:E4):(yj x).length=4:=rfl
theorem js (x:E4):trees (yj x)=true:=rfl
theorem MU {x:E4}(h:b4 x):yj x=(f4 x).map fun n=>.int .i64 n:=by
 obtain⟨a,b,c,d⟩:=x;obtain⟨h1,h2,h3,h4⟩:=h;simp only[yj,f4,Nat.mod_eq_of_lt h1,Nat.mod_eq_of_lt h2,Nat.mod_eq_of_lt h3,Nat.mod_eq_of_lt h4,List.map_cons,List.map_nil]
theorem yb:∀ (l:List E4),(∀ x∈l,b4 x)→l.flatMap yj=(l.flatMap f4).map fun n=>.int .i64 n
 | [],_=>rfl
 | x::r,h=>by
  rw[List.flatMap_cons,List.flatMap_cons,List.map_append,yb r fun y hy=>h y (List.mem_cons_of_mem _ hy),MU (h x List.mem_cons_self)]
def ES (u:Un)(e:E4):Prop:=∃ x z,(ak u).is[e.2.2.1]? = some x∧(aq u x)[e.2.2.2]? = some z∧qp x z=some e.2.1∧e.1<u.ms.length∧Ft u e.2.2.1 e.2.2.2 e.2.1 e.1=true
noncomputable def IQ (u:Un) (s:S3) (h:Nat):List E4:=if Ft u s.1 s.2.1 s.2.2 h=true then [(h,s.2.2,s.1,s.2.1)] else []
noncomputable def AP (u:Un) (s:S3) (n:Nat):List E4:=(List.range n).flatMap (IQ u s)
noncomputable def ry (u:Un) (n:Nat):List E4:=((od u (ak u).is.length).take n).flatMap fun s=>AP u s u.ms.length
theorem zn (u:Un)(s:S3)(n:Nat):AP u s (n+1)=AP u s n++IQ u s n:=by
 simp[AP,List.range_succ]
theorem zo {u:Un}{n:Nat}{s:S3}(h:(od u (ak u).is.length)[n]? = some s):ry u (n+1)=ry u n++AP u s u.ms.length:=by
 rw[ry,List.take_add_one,h];simp[ry]
theorem C4 {u:Un}{s:S3}:s∈od u (ak u).is.length↔∃ x z,(ak u).is[s.1]? = some x∧(aq u x)[s.2.1]? = some z∧qp x z=some s.2.2:=by
 obtain⟨i,pc,m⟩:=s;simp only[od,KL,List.mem_flatMap,List.mem_range];constructor
 ·rintro⟨j,hj,h⟩;split at h
  ·rename_i x hx;simp only[AO,Fs,List.mem_flatMap,List.mem_range] at h;obtain⟨p,hp,h⟩:=h;split at h
   ·rename_i z hz;split at h
    ·rename_i k hk;simp only[List.mem_singleton,Prod.mk.injEq] at h;obtain⟨rfl,rfl,rfl⟩:=h;exact⟨x,z,hx,hz,hk⟩
    ·simp at h
   ·simp at h
  ·simp at h
 ·rintro⟨x,z,hx,hz,hk⟩;refine⟨i,(List.getElem?_eq_some_iff.1 hx).1,?_⟩;simp only[hx,AO,List.mem_flatMap,List.mem_range];refine⟨pc,(List.getElem?_eq_some_iff.1 hz).1,?_⟩;simp[Fs,hz,hk]
theorem C7 {u:Un}{e:E4}:e∈ry u (od u (ak u).is.length).length↔ES u e:=by
 obtain⟨h,m,i,pc⟩:=e;simp only[ry,List.take_length,List.mem_flatMap,AP,IQ,List.mem_range,C4,ES];constructor
 ·rintro⟨s,⟨x,z,hx,hz,hk⟩,h',hh',hm⟩;split at hm
  ·rename_i hp;simp only[List.mem_singleton,Prod.mk.injEq] at hm;obtain⟨rfl,rfl,rfl,rfl⟩:=hm;exact⟨x,z,hx,hz,hk,hh',hp⟩
  ·simp at hm
 ·rintro⟨x,z,hx,hz,hk,hh,hp⟩;exact⟨(i,pc,m),⟨x,z,hx,hz,hk⟩,h,hh,by simp[hp]⟩
theorem HX {u:Un}(hu:ik u){e:E4}(h:ES u e):b4 e:=by
 obtain⟨x,z,hx,hz,hk,hh,hp⟩:=h;have h1:=(List.getElem?_eq_some_iff.1 hx).1;have h2:=(List.getElem?_eq_some_iff.1 hz).1;have h3:=hu.nm;obtain⟨PX,U1⟩:=j0 hu;have h4:=eZ hu x;have h5:e.2.1<u.ms.length:=by
  unfold Ft at hp;split at hp
  ·rename_i hm;exact (List.getElem?_eq_some_iff.1 hm).1
  ·cases hp
 exact⟨by omega,by omega,by omega,by omega⟩
theorem tU {α:Type}{R:α→α→Prop}{n:Nat}{f:Nat→List α}(h1:∀ i,i<n→(f i).Pairwise R)(h2:∀ i j,i<j→j<n→∀ a∈f i,∀ b∈f j,R a b):((List.range n).flatMap f).Pairwise R:=by
 refine List.pairwise_flatMap.2 ⟨fun a ha=>h1 a (List.mem_range.1 ha),?_⟩;have h3:(List.range n).Pairwise fun a b=>a<b∧b<n:=by
  rw[List.pairwise_iff_getElem];intro i j hi hj Tc;simp only[List.length_range] at hi hj;simp[Tc,hj]
 exact h3.imp fun {a b} h x hx y hy=>h2 a b h.1 h.2 x hx y hy
theorem LQ (u:Un)(n:Nat):(od u n).Nodup:=by
 refine tU (fun i _=>?_) (fun i j Tc _ a ha b hb e=>?_)
 ·unfold KL;split
  ·refine tU (fun p _=>?_) (fun p q Qe _ a ha b hb e=>?_)
   ·unfold Fs;split
    ·split<;>simp
    ·simp
   ·have h1:∀ (p:Nat) (a:S3) (x:Is),a∈Fs u i x p→a.2.1=p:=by
     intro p a x h;unfold Fs at h;split at h
     ·split at h
      ·simp only[List.mem_singleton] at h;rw[h]
      ·simp at h
     ·simp at h
    have:=h1 _ _ _ ha;have:=h1 _ _ _ hb;subst e;omega
  ·simp
 ·have h1:∀ (i:Nat) (a:S3),a∈KL u i→a.1=i:=by
   intro i a h;unfold KL at h;split at h
   ·simp only[AO,List.mem_flatMap] at h;obtain⟨p,_,h⟩:=h;unfold Fs at h;split at h
    ·split at h
     ·simp only[List.mem_singleton] at h;rw[h]
     ·simp at h
    ·simp at h
   ·simp at h
  have:=h1 _ _ ha;have:=h1 _ _ hb;subst e;omega
theorem C6 {u:Un}{s:S3}{n:Nat}{e:E4}(h:e∈AP u s n):e.1<n∧e.2.1=s.2.2∧e.2.2.1=s.1∧e.2.2.2=s.2.1:=by
 simp only[AP,IQ,List.mem_flatMap,List.mem_range] at h;obtain⟨k,hk,h⟩:=h;split at h
 ·simp only[List.mem_singleton] at h;rw[h];exact⟨hk,rfl,rfl,rfl⟩
 ·simp at h
theorem Mk (u:Un):(ry u (od u (ak u).is.length).length).Nodup:=by
 rw[ry,List.take_length];refine List.pairwise_flatMap.2 ⟨fun s _=>?_,(LQ u _).imp fun {s t} Qa a ha b hb e=>?_⟩
 ·refine tU (fun p _=>?_) (fun p q Qe _ a ha b hb e=>?_)
  ·unfold IQ;split<;>simp
  ·have h1:∀ (p:Nat) (a:E4),a∈IQ u s p→a.1=p:=by
    intro p a h;unfold IQ at h;split at h
    ·simp only[List.mem_singleton] at h;rw[h]
    ·simp at h
   have:=h1 _ _ ha;have:=h1 _ _ hb;subst e;omega
 ·obtain⟨_,a1,a2,a3⟩:=C6 ha;obtain⟨_,c1,c2,c3⟩:=C6 hb;subst e;refine Qa ?_;obtain⟨s1,s2,s3⟩:=s;obtain⟨t1,t2,t3⟩:=t;simp only at a1 a2 a3 c1 c2 c3;rw[← a1,← a2,← a3,← c1,← c2,← c3]
noncomputable def Pu (u:Un) (h m i:Nat) (x:Is) (pc:Nat) (z:In):Bool:=decide (qp x z=some m) && decide (1<vE u i pc h) && (match u.ms[m]? with | some xm=>(!xm.re) || decide (vE u i pc m % 2=1) | none=>false)
noncomputable def Mc (u:Un) (h m i:Nat) (x:Is) (pc:Nat):List E4:=match (aq u x)[pc]? with
 | some z=>if Pu u h m i x pc z=true then [(h,m,i,pc)] else []
 | none=>[]
noncomputable def Jt (u:Un) (h m i:Nat) (x:Is) (n:Nat):List E4:=(List.range n).flatMap (Mc u h m i x)
noncomputable def Ju (u:Un) (h m i:Nat):List E4:=match (ak u).is[i]? with
 | some x=>Jt u h m i x (aq u x).length
 | none=>[]
noncomputable def KR (u:Un) (h m n:Nat):List E4:=(List.range n).flatMap (Ju u h m)
def Pv (u:Un)(h m:Nat):Bool:=decide (h=m) && (match u.ms[h]? with | some xh=>decide (xh.size=0) | none=>false)
noncomputable def IN (u:Un) (h m:Nat):List E4:=if Pv u h m=true then [] else KR u h m (ak u).is.length
noncomputable def IM (u:Un) (h n:Nat):List E4:=(List.range n).flatMap (IN u h)
noncomputable def vN (u:Un) (n:Nat):List E4:=(List.range n).flatMap fun h=>IM u h u.ms.length
theorem GA (u:Un)(h m i:Nat)(x:Is)(n:Nat):Jt u h m i x (n+1)=Jt u h m i x n++Mc u h m i x n:=by simp[Jt,List.range_succ]
theorem Pj {u:Un}{h m i:Nat}{x:Is}(hx:(ak u).is[i]? = some x):KR u h m (i+1)=KR u h m i++Jt u h m i x (aq u x).length:=by simp[KR,List.range_succ,Ju,hx]
theorem GC (u:Un)(h n:Nat):IM u h (n+1)=IM u h n++IN u h n:=by simp[IM,List.range_succ]
theorem GF (u:Un)(n:Nat):vN u (n+1)=vN u n++IM u n u.ms.length:=by simp[vN,List.range_succ]
theorem sh {u:Un}{h m i pc:Nat}{x:Is}{e:E4}:e∈Mc u h m i x pc↔e=(h,m,i,pc)∧∃ z,(aq u x)[pc]? = some z∧Pu u h m i x pc z=true:=by
 unfold Mc;split
 ·rename_i z hz;split
  ·rename_i hb;simp[hz,hb]
  ·rename_i hb;simp[hz,hb]
 ·rename_i hz;simp[hz]
theorem pd {u:Un}{h m n:Nat}{e:E4}:e∈KR u h m n↔e.1=h∧e.2.1=m∧e.2.2.1<n∧∃ x z,(ak u).is[e.2.2.1]? = some x∧(aq u x)[e.2.2.2]? = some z∧Pu u h m e.2.2.1 x e.2.2.2 z=true:=by
 simp only[KR,List.mem_flatMap,List.mem_range];constructor
 ·rintro⟨i,hi,he⟩;unfold Ju at he;split at he
  ·rename_i x hx;simp only[Jt,List.mem_flatMap,List.mem_range,sh] at he;obtain⟨pc,jN,rfl,z,hz,hb⟩:=he;exact⟨rfl,rfl,hi,x,z,hx,hz,hb⟩
  ·simp at he
 ·obtain⟨h',m',i,pc⟩:=e;rintro⟨rfl,rfl,hi,x,z,hx,hz,hb⟩;refine⟨i,hi,?_⟩;simp only at hx hz hb;simp only[Ju,hx,Jt,List.mem_flatMap,List.mem_range,sh];exact⟨pc,(List.getElem?_eq_some_iff.1 hz).1,rfl,z,hz,hb⟩
theorem sj {u:Un}{e:E4}:e∈vN u u.ms.length↔ES u e:=by
 obtain⟨h,m,i,pc⟩:=e;simp only[vN,IM,List.mem_flatMap,List.mem_range,ES];constructor
 ·rintro⟨h',hh,m',hm,he⟩;unfold IN at he;split at he
  ·simp at he
  ·rename_i SN;rw[pd] at he;obtain⟨rfl,rfl,hi,x,z,hx,hz,hb⟩:=he;obtain⟨xh,Ti⟩:∃ xh,u.ms[h]? = some xh:=⟨_,List.getElem?_eq_getElem hh⟩;obtain⟨xm,R6⟩:∃ xm,u.ms[m]? = some xm:=⟨_,List.getElem?_eq_getElem hm⟩;simp only[Pu,R6,Bool.and_eq_true,decide_eq_true_eq] at hb;refine⟨x,z,hx,hz,hb.1.1,hh,?_⟩;simp only[Ft,Ti,R6,hb.2,Bool.and_true,Bool.and_eq_true,decide_eq_true_eq];refine⟨hb.1.2,?_⟩;simp only[Pv,Ti] at SN;by_cases e:h=m
   ·subst e;simp at SN;simp;omega
   ·simp[e]
 ·rintro⟨x,z,hx,hz,hk,hh,hp⟩;unfold Ft at hp;split at hp
  ·rename_i xh xm Ti R6;simp only[Bool.and_eq_true,decide_eq_true_eq] at hp;have hm:=(List.getElem?_eq_some_iff.1 R6).1;refine⟨h,hh,m,hm,?_⟩;unfold IN;have SN:Pv u h m=false:=by
    simp only[Pv,Ti];have:=hp.1.2;by_cases e:h=m
    ·subst e;simp at this;simp;omega
    ·simp[e]
   rw[SN,if_neg zX,pd];refine⟨rfl,rfl,(List.getElem?_eq_some_iff.1 hx).1,x,z,hx,hz,?_⟩;simp only[Pu,R6,hp.2,Bool.and_true,Bool.and_eq_true,decide_eq_true_eq];exact⟨hk,hp.1.1⟩
  ·cases hp
theorem GG (u:Un):(vN u u.ms.length).Pairwise yL:=by
 have hmM:∀ {h n:Nat} {e:E4},e∈IM u h n→e.1=h:=by
  intro h n e he;simp only[IM,List.mem_flatMap,List.mem_range] at he;obtain⟨m,_,he⟩:=he;unfold IN at he;split at he
  ·simp at he
  ·exact (pd.1 he).1
 refine tU (fun h _=>?_) (fun h k hk _ a ha b hb=>?_)
 ·refine tU (fun m _=>?_) (fun m k hk _ a ha b hb=>?_)
  ·unfold IN;split
   ·simp
   ·refine tU (fun i _=>?_) (fun i k hk _ a ha b hb=>?_)
    ·unfold Ju;split
     ·refine tU (fun pc _=>?_) (fun p q Qe _ a ha b hb=>?_)
      ·unfold Mc;split
       ·split<;>simp
       ·simp
      ·rw[sh] at ha hb;rw[ha.1,hb.1];simp[yL,Qe]
     ·simp
    ·have h1:∀ (i:Nat) (a:E4),a∈Ju u h m i→a.1=h∧a.2.1=m∧a.2.2.1=i:=by
      intro i a ha;unfold Ju at ha;split at ha
      ·simp only[Jt,List.mem_flatMap,sh] at ha;obtain⟨pc,_,rfl,_⟩:=ha;exact⟨rfl,rfl,rfl⟩
      ·simp at ha
     obtain⟨a1,a2,a3⟩:=h1 _ _ ha;obtain⟨c1,c2,c3⟩:=h1 _ _ hb;simp only[yL];omega
  ·have h1:∀ (m:Nat) (a:E4),a∈IN u h m→a.1=h∧a.2.1=m:=by
    intro m a ha;unfold IN at ha;split at ha
    ·simp at ha
    ·exact⟨(pd.1 ha).1,(pd.1 ha).2.1⟩
   obtain⟨a1,a2⟩:=h1 _ _ ha;obtain⟨c1,c2⟩:=h1 _ _ hb;simp only[yL];omega
 ·have a1:=hmM ha;have c1:=hmM hb;simp only[yL];omega
theorem HW {u:Un}(hu:ik u){r:List E4}(hp:r.Perm (ry u (od u (ak u).is.length).length))(hs:r.Pairwise fun x y=>ltOf IX y x=false):r=vN u u.ms.length:=by
 have SD:(vN u u.ms.length).Nodup:=(GG u).imp fun {a b} h e=>by
  subst e;simp only[yL] at h;omega
 have h1:(ry u (od u (ak u).is.length).length).Perm (vN u u.ms.length):=(List.perm_ext_iff_of_nodup (Mk u) SD).2 fun e=>by rw[C7,sj]
 have h2:=hp.trans h1;have hb:∀ e∈vN u u.ms.length,Fx e=e:=fun e he=>md4_b (HX hu (sj.1 he));refine h2.eq_of_pairwise (le:=fun x y=>¬ yL (Fx y) (Fx x)) (fun a b ha P5 k1 k2=>?_) (hs.imp fun {a b} h=>(Hj b a).1 h) ?_
 ·rw[hb a (h2.mem_iff.1 ha),hb b P5] at k1 k2;exact Hk k2 k1
 ·refine List.Pairwise.imp_of_mem ?_ (GG u);intro a b ha P5 h k;rw[hb a ha,hb b P5] at k;simp only[yL] at h k;omega
noncomputable def HY (u:Un):CV:=.az ((vN u u.ms.length).flatMap yj) (vN u u.ms.length).length
def Kb (T:List (List (List Nat)))(S:List S3)(k n:Nat):List (Nat×CV):=[(17,I k),(16,I S.length),(15,.az (S.flatMap pY) S.length),(6,.bj 2 0 n),(5,bW T),(3,.av 1 0),(2,.av 0 0)]
def J6 (u:Un)(A:List E4):List (Nat×Ob):=(2,⟨76,4,A.flatMap yj⟩)::ir u
def JE33 (u:Un)(T:List (List (List Nat)))(S:List S3)(k:Nat)(s:St):Prop:=∃ i:Nat,k=S.length-i∧i≤S.length∧s=⟨Kb T S i (ry u i).length,J6 u (ry u i),3⟩
def JE33b (u:Un)(T:List (List (List Nat)))(S:List S3)(i:Nat)(t:S3)(A:List E4)(k:Nat)(s:St):Prop:=∃ h:Nat,k=u.ms.length-h∧h≤u.ms.length∧s=⟨(24,I h)::(23,I u.ms.length)::(8,.av 3 0)::Kb T S i (A++AP u t h).length,(3,⟨157,0,pY t⟩)::J6 u (A++AP u t h),4⟩
theorem Bt (u:Un)(s:S3):∀ n,(AP u s n).length≤n
 | 0=>by simp[AP]
 | n+1=>by
  have:=Bt u s n;have:(IQ u s n).length≤1:=by unfold IQ;split<;>simp
  rw[zn,List.length_append];omega
theorem GU (u:Un):∀ n,(ry u n).length≤n*u.ms.length
 | 0=>by simp[ry]
 | n+1=>by
  have h:=GU u n
  cases hs:(od u (ak u).is.length)[n]? with
  | some s=>
   have:=Bt u s u.ms.length;rw[zo hs,List.length_append,Nat.add_mul];omega
  | none=>
   have:ry u (n+1)=ry u n:=by
    rw[ry,List.take_add_one,hs];simp[ry]
   rw[this,Nat.add_mul];omega
theorem Mz {u:Un}(hu:ik u){x:Is}(hx:pV u x){pc:Nat}{z:In}(hz:(aq u x)[pc]? = some z){m:Nat}(hk:qp x z=some m):m<u.ms.length:=by
 obtain⟨pq,Qe,PK,Sc,UH⟩:=lh hu hx hz;unfold qp at hk;split at hk
 ·rename_i p;cases hk;exact G7 hx.m Sc (UH:Fl u.ms u.gs.length pq.locals pq.bx p)
 ·cases hk
set_option maxHeartbeats 1000000 in
theorem El {u:Un}(hu:ik u):ae Tryz.prog 33 [ef u,jj (ak u)] (HY u):=by
 have hbs:=B3 hu;have Qa:=Eg hu;have Rc:=fun (i pc m h:Nat) (x:Is) (hx:(ak u).is[i]? = some x) (jN:pc<(aq u x).length) (xm xh:Mx) (hm:u.ms[m]? = some xm) (hh:u.ms[h]? = some xh)=>zm hu hx jN hm hh;have heq:=fun (r:List E4) (hp:r.Perm (ry u (od u (ak u).is.length).length)) (hs:r.Pairwise fun x y=>ltOf IX y x=false)=>HW hu hp hs;have hbA:∀ e∈ry u (od u (ak u).is.length).length,b4 e:=fun e he=>HX hu (C7.1 he);have hbR:∀ e∈vN u u.ms.length,b4 e:=fun e he=>HX hu (sj.1 he);have Q1:=fun (s:S3) (h:s∈od u (ak u).is.length)=>C4.1 h;have Tq:=Bj hu (ak u).is.length;have hpa:=fun (n:Nat) (s:S3) (h:(od u (ak u).is.length)[n]? = some s)=>zo h;have Qy:=GU u;have QH:=hu.nm;obtain⟨PX,U1⟩:=j0 hu;have PO:=bO u;have PW:=cO (ak u);have t2:trees [ef u,jj (ak u)]=true:=by simp only[trees,tree,ef,jj,bO,cO,Bool.and_self]
 have tt:tree (HY u)=true:=by simp only[HY,tree]
 refine ae.aM ah Tryz.func33 rfl PH (by simp[Tryz.ntmps33]) tt fun C hC PN=>?_;rw[Tryz.ntmps33] at hC;generalize rG u=TT at *;generalize od u (ak u).is.length=S at *;have tS:=aF jq S;have tT:=ej TT;simp only[ef,jj,dh,fp,ints] at PO PW t2 hbs Qa Rc ⊢;apply aj;simp[hC];apply aj;simp[hC];refine dQ t2 hbs ?_;simp[hC];apply aj;simp[hC];apply aU;simp[hC];refine dQ t2 Qa ?_;simp[hC];apply T.block;refine T.aJ (JE33 u TT S) (n:=S.length) ?_ ?_
 ·refine aa.le (Le.own 6 76 4 rfl) ?_;simp[St.own];refine aa.trim [17,16,15,6,5,3,2] [2,1,0] 3 (by simp[-List.all_eq_true,-List.all_flatMap,bW,af PO,af PW]) yA ⟨0,by omega,by omega,?_⟩;simp[Kb,J6,ir,dh,fp,ints,ry]
 ·rintro k s ⟨i,rfl,hi,rfl⟩;simp only[Kb,J6,ir,dh,fp,ints];by_cases PJ:i<S.length
  ·obtain⟨t,ht⟩:∃ t,S[i]? = some t:=⟨_,List.getElem?_eq_getElem PJ⟩;obtain⟨x,z,hx,hz,hk⟩:=Q1 t (List.mem_of_getElem? ht);have Rx:=hpa i t ht;have jN:=(List.getElem?_eq_some_iff.1 hz).1;have R8:=aO (f:=pY) (n:=3) xC ht;have wi:=cE ((i:Int)+1) yA yA;have hAl:(ry u i).length≤S.length*4:=Nat.le_trans (Qy i) (Nat.mul_le_mul hi QH.2);generalize ry u i=A at *;have tA:=aF js A;apply aj;simp[hC,PJ];refine T.seq (T.cond (b:=true) rfl (T.skip ?_));simp;apply dZ;apply aj;simp[hC,PJ,R8,pY];apply aj;simp[hC];apply T.block;refine T.aJ (JE33b u TT S i t A) (n:=u.ms.length) ?_ ?_
   ·refine aa.trim [24,23,8,17,16,15,6,5,3,2] [3,2,1,0] 4 (by simp[-List.all_eq_true,-List.all_flatMap,bW,af PO,af PW,af tA]) yA ⟨0,by omega,by omega,?_⟩;simp[Kb,J6,ir,dh,fp,ints,AP,pY]
   ·rintro k s ⟨h,rfl,hh,rfl⟩;simp only[Kb,J6,ir,dh,fp,ints,pY];have hsL:=Bt u t h;by_cases Xc:h<u.ms.length
    ·obtain⟨xh,Ti⟩:∃ xh,u.ms[h]? = some xh:=⟨_,List.getElem?_eq_getElem Xc⟩;have QK:=Mz hu (uE hu hx) hz hk;obtain⟨xm,R6⟩:∃ xm,u.ms[t.2.2]? = some xm:=⟨_,List.getElem?_eq_getElem QK⟩;have XB:=zn u t h;have Rb:IQ u t h=if Ft u t.1 t.2.1 t.2.2 h=true then [(h,t.2.2,t.1,t.2.1)] else []:=rfl
     have UT:=Rc t.1 t.2.1 t.2.2 h x hx jN xm xh R6 Ti;have wh:=cE ((h:Int)+1) yA yA;have tp:trees [ef u,bW TT,I h,.agg (pY (t.1,t.2.1,t.2.2))]=true:=by simp only[ef,bW,pY,trees,tree,bO,Bool.and_self]
     simp only[ef,dh,ints,pY] at UT tp;generalize hB:A++AP u t h=B at *;have hBl:B.length=A.length+(AP u t h).length:=by rw[← hB,List.length_append]
     have tB:=aF js B;apply aj;simp[hC,Xc];refine T.seq (T.cond (b:=true) rfl (T.skip ?_));simp;apply dZ;apply aj;simp[hC];apply aj;simp[hC];refine dQ tp UT ?_;simp
     cases hpb:Ft u t.1 t.2.1 t.2.2 h with
     | true=>
      rw[hpb,if_pos rfl] at Rb;have bB:(B.length+1)*32≤140737488355328:=by omega
      have hB5:B.flatMap yj++[I h,I t.2.2,I t.1,I t.2.1]=(B++[(h,t.2.2,t.1,t.2.1)]).flatMap yj:=by simp[yj]
      have Ve:=aF js (B++[(h,t.2.2,t.1,t.2.1)]);rw[← hB5] at Ve;have Xm:(B.flatMap yj).length=B.length*4:=bk yi B;have hBt:List.take (B.length*4) (B.flatMap yj)=B.flatMap yj:=List.take_of_length_le (Nat.le_of_eq Xm);have rB:=fun ρ=>ay ρ _ tB;have Y1:=fun ρ=>ay ρ _ Ve;have rU:=fun ρ=>ay ρ _ PO;have rC:=fun ρ=>ay ρ _ PW;have rS:=fun ρ=>ay ρ _ tS;have rT:=fun ρ=>ay ρ _ tT;generalize hRB:B.flatMap yj=RB at *;refine T.cond (b:=true) RN ?_;simp;apply aW;simp[hC,bB,Xm,aX];apply aW;simp[hC,wh];refine⟨u.ms.length-(h+1),by omega,?_⟩;refine aa.le (Le.norm [24,23,8,17,16,15,6,5,3,2] [(3,3),(5,2),(1,1),(0,0)] 0 4 Rm Rl (by simp[dD,um,p4,tree,assoc,-List.all_eq_true,-List.all_flatMap,bW,aH Ve,aH PO,aH PW]) yA) ?_;simp[dC,ct,cq,dR,gf,assoc,bW,Y1,tj];refine aa.here ⟨h+1,rfl,by omega,?_⟩;rw[XB,Rb,← List.append_assoc,hB];simp[Kb,J6,ir,dh,fp,ints,hRB,pY,yj,bW]
     | false=>
      rw[hpb,if_neg zX] at Rb;rw[Rb,List.append_nil] at XB;refine T.cond (b:=false) RN (T.skip ?_);simp;apply aW;simp[hC,wh];refine⟨u.ms.length-(h+1),by omega,aa.trim [24,23,8,17,16,15,6,5,3,2] [3,2,1,0] 4 (by simp[-List.all_eq_true,-List.all_flatMap,bW,af PO,af PW,af tB]) yA ⟨h+1,rfl,by omega,?_⟩⟩;rw[XB,hB];simp[Kb,J6,ir,dh,fp,ints,pY]
    ·have hhe:h=u.ms.length:=by omega
     subst hhe;have tB:=aF js (A++AP u t u.ms.length);apply aj;simp[hC];refine T.seq (T.cond (b:=false) rfl (T.exit ?_));simp;apply aW;simp[hC,wi];refine⟨S.length-(i+1),by omega,aa.trim [17,16,15,6,5,3,2] [2,1,0] 3 (by simp only[List.flatMap_append] at tB ⊢;simp[-List.all_eq_true,-List.all_flatMap,bW,af PO,af PW,af tB]) yA ⟨i+1,rfl,by omega,?_⟩⟩;rw[Rx];simp[Kb,J6,ir,dh,fp,ints]
  ·have PS:i=S.length:=by omega
   subst PS;have hAl:(ry u S.length).length≤S.length*4:=Nat.le_trans (Qy _) (Nat.mul_le_mul (Nat.le_refl _) QH.2);generalize hA:ry u S.length=A at *;apply aj;simp[hC];refine T.seq (T.cond (b:=false) rfl (T.exit ?_));simp;apply aj;simp[hC];rw[yb A hbA];refine TL.sortK srtE 4 f4 (fun _=>rfl) Tryz.isAgg76 Tryz.sizeOf76 IX swo4 101 (Go.Proofs.enters_of Tryz.func101 PH rfl) (fun _ _ _ _ _ _ _ _ x y=>Nc x y _) (zs:=A) (q:=2) (BO Tryz.func100 PH rfl) PV rfl rfl rfl rfl yA fun r hp hs=>?_;have hr:=heq r hp hs;have Uj:=hp.length_eq;subst hr;refine TL.go' ah ?_;rw[← yb _ hbR];simp[oM];have tR:=aF js (vN u u.ms.length);rw[← Uj];generalize YM:vN u u.ms.length=R at *;apply aj;simp[hC];apply T.ret;refine aa.le (Le.dz (o:=2) rfl tR) ?_;apply aa.here;have PY:List.take (R.length*4) (R.flatMap yj)=R.flatMap yj:=List.take_of_length_le (by rw[bk yi];exact Nat.le_refl _);simp[Tryz.results33,HY,YM,PY]
theorem Mb (u:Un)(h m i:Nat)(x:Is)(pc:Nat):(Mc u h m i x pc).length≤1:=by
 unfold Mc;split
 ·split<;>simp
 ·simp
theorem GB (u:Un)(h m i:Nat)(x:Is):∀ n,(Jt u h m i x n).length≤n
 | 0=>by simp[Jt]
 | n+1=>by
  have:=GB u h m i x n;have:=Mb u h m i x n;rw[GA,List.length_append];omega
theorem GI {u:Un}(hu:ik u)(h m:Nat):∀ n,(KR u h m n).length≤n*145
 | 0=>by simp[KR]
 | n+1=>by
  have k:=GI hu h m n;have:(Ju u h m n).length≤145:=by
   unfold Ju;split
   ·rename_i x _;have:=GB u h m n x (aq u x).length;have:=eZ hu x;omega
   ·simp
  have e:KR u h m (n+1)=KR u h m n++Ju u h m n:=by simp[KR,List.range_succ]
  rw[e,List.length_append];omega
theorem GD {u:Un}(hu:ik u)(h:Nat):∀ n,(IM u h n).length≤n*7105
 | 0=>by simp[IM]
 | n+1=>by
  have k:=GD hu h n;have:(IN u h n).length≤7105:=by
   unfold IN;split
   ·simp
   ·have:=GI hu h n (ak u).is.length;have:=(j0 hu).1;omega
  rw[GC,List.length_append];omega
theorem GH {u:Un}(hu:ik u):∀ n,(vN u n).length≤n*28420
 | 0=>by simp[vN]
 | n+1=>by
  have k:=GH hu n;have:=GD hu n u.ms.length;have:=hu.nm;rw[GF,List.length_append];omega
end Go.Proofs.YtnecpnjdonibmaaGreat
