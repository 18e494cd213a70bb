/- Keys that are records of integers and arrays of integers: maps and equality of them. No function of the program is mentioned here. | Keys, Mutex, Callee, Find of the program. | Mutex, Callee of the program. | Find of the program. -/
import Derived.Test.YtmnglemlimfpbaaGreatZ44
import Derived.DeepKeys3
namespace Go.Can
open Go.RowKit
def wI:Value→Bool
 | .int .i64 n=>nw n
 | _=>false
theorem xe {v:Value}(h:wI v=true):∃ n,v=.int .i64 n∧(Lit.int .i64 n).wf=true:=by
 unfold wI at h
 split at h
 ·rename_i n
  refine⟨n,rfl,?_⟩
  simp only[nw,Bool.and_eq_true,decide_eq_true_eq] at h
  simp[Lit.wf,IntKind.min,IntKind.max,IntKind.signed,IntKind.bits]
  omega
 ·cases h
theorem mapM_some {α β:Type}{f:α→Option β}:∀ (l:List α),(l.mapM f).isSome=l.all fun x=>(f x).isSome
 | []=>by simp
 | x::r=>by
  rw[List.mapM_cons]
  cases h:f x with
  | none=>simp[h]
  | some y=>
   have:=mapM_some (f:=f) r
   cases h2:r.mapM f with
   | none=>simp[h,h2] at this ⊢;simpa using this
   | some z=>simp[h,h2] at this ⊢;simpa using this
theorem oU {P:Program}:∀ (d:Nat) (t:TypeId) (cs ds:List Value),cs.length=ds.length→(cs.all wI=true)→(ds.all wI=true)→(P.keyLits d t ds).isSome=true→(P.keyLits d t cs).isSome=true
 | 0,_,_,_,_,_,_,h=>by simp[Program.keyLits] at h
 | d+1,t,cs,ds,hl,hc,hd,h=>by
  have sub:∀ u n m,(P.keyLits d u ((ds.drop n).take m)).isSome=true→(P.keyLits d u ((cs.drop n).take m)).isSome=true:=fun u n m hs=>by
   refine oU d u _ _ (by simp[hl]) ?_ ?_ hs
   ·exact List.all_eq_true.2 fun x hx=>List.all_eq_true.1 hc x (List.mem_of_mem_drop (List.mem_of_mem_take hx))
   ·exact List.all_eq_true.2 fun x hx=>List.all_eq_true.1 hd x (List.mem_of_mem_drop (List.mem_of_mem_take hx))
  unfold Program.keyLits at h ⊢
  cases hu:P.underlying t with
  | none=>rw[hu] at h;simp at h
  | some u=>
   rw[hu] at h
   cases u with
   | array n e=>
    simp only[hl] at h ⊢
    split at h
    ·rename_i he
     rw[if_pos he]
     rw[Option.isSome_map,mapM_some] at h ⊢
     exact List.all_eq_true.2 fun i hi=>sub _ _ _ (List.all_eq_true.1 h i hi)
    ·cases h
   | struct fs=>
    simp only[hl] at h ⊢
    split at h
    ·rename_i he
     rw[if_pos he]
     rw[Option.isSome_map,mapM_some] at h ⊢
     exact List.all_eq_true.2 fun i hi=>sub _ _ _ (List.all_eq_true.1 h i hi)
    ·cases h
   | int q=>
    match ds,cs,hl,hc,hd,h with
    | [x],[y],_,hc,hd,h=>
     simp only[List.all_cons,List.all_nil,Bool.and_true] at hc hd
     obtain⟨n,rfl,w1⟩:=xe hd
     obtain⟨m,rfl,w2⟩:=xe hc
     simp only at h ⊢
     split at h
     ·rename_i he
      obtain⟨rfl,_⟩:=he
      rw[if_pos ⟨rfl,w2⟩]
      rfl
     ·cases h
    | [],_,_,_,_,h=>simp at h
    | _::_::_,_,_,_,_,h=>simp at h
   | bool=>
    cases ds with
    | nil=>simp at h
    | cons x r=>
     simp only[List.all_cons,Bool.and_eq_true] at hd
     obtain⟨n,rfl,_⟩:=xe hd.1
     simp at h
   | string=>
    cases ds with
    | nil=>simp at h
    | cons x r=>
     simp only[List.all_cons,Bool.and_eq_true] at hd
     obtain⟨n,rfl,_⟩:=xe hd.1
     simp at h
   | _=>simp at h
def nL (n:Nat):Value→Bool
 | .agg cs=>decide (cs.size=n) && cs.toList.all wI
 | _=>false
theorem vJ {n:Nat}{v:Value}(h:nL n v=true):∃ cs,v=.agg cs∧cs.size=n∧cs.toList.all wI=true:=by
 unfold nL at h
 split at h
 ·simp only[Bool.and_eq_true,decide_eq_true_eq] at h
  exact⟨_,rfl,h⟩
 ·cases h
def sU (P:Program)(m n:Nat)(t:TypeId):Bool:=P.keyTypeAt m t && P.tiled m t && (match P.underlying t with | some (.array _ _) | some (.struct _)=>true | _=>false) && P.keyType t && (P.cellsOf t == n) && (P.keyLits (P.types.size+1) t (List.replicate n (.int .i64 0))).isSome
theorem sT {P:Program}{m n:Nat}{t:TypeId}(h:sU P m n t=true){v:Value}(hv:nL n v=true):∃ l,keyOf P t v=some l:=by
 simp only[sU,Bool.and_eq_true,beq_iff_eq] at h
 obtain⟨⟨⟨⟨⟨h1,h2⟩,h3⟩,h4⟩,h5⟩,h6⟩:=h
 obtain⟨cs,rfl,hn,hw⟩:=vJ hv
 have hk:=oU (P:=P) (P.types.size+1) t cs.toList (List.replicate n (.int .i64 0)) (by simp[hn]) hw (by simp[List.all_replicate,wI,nw]) h6
 obtain⟨L,hL⟩:=Option.isSome_iff_exists.1 hk
 have hf:(Value.agg cs).formed P t=true:=by
  unfold Value.formed
  split at h3<;>rename_i e<;>simp only[e,hn,h5,beq_self_eq_true] at h3 ⊢
  cases h3
 have hif:(if P.keyType t && (Value.agg cs).formed P t then (P.keyLits (P.types.size+1) t (Value.agg cs).cells.toList).map fun ls=>Lit.string (keyBytes ls) else none)=some (.string (keyBytes L)):=by
  rw[if_pos (by rw[h4,hf];rfl),show (Value.agg cs).cells=cs from rfl,hL]
  rfl
 refine⟨_,Eq.trans ?_ hif⟩
 unfold keyOf
 split
 ·rfl
 ·rfl
 ·exfalso
  split at h3
  ·simp_all
  ·simp_all
  ·cases h3
theorem B6 {P:Program}{m n:Nat}{t kt et:TypeId}{zv:Value}(hu:P.underlying t=some (.map kt et))(hm:m+1≤10000)(h:sU P m n kt=true)(hz:∃ f,P.info? et=some f∧f.zero=some zv):Ad P t kt et (nL n) zv:=by
 have h':=h
 simp only[sU,Bool.and_eq_true,beq_iff_eq] at h'
 exact⟨hu,Go.Maps.Keyed.of_law (deep_law hm h'.1.1.1.1.1 h'.1.1.1.1.2 h'.1.1.1.2),fun v hv=>sT h hv,hz⟩
theorem Dy {n:Nat}{v:Value}(h:nL n v=true):FF v=true:=by
 obtain⟨cs,rfl,_,hw⟩:=vJ h
 simp only[FF]
 refine List.all_eq_true.2 fun x hx=>?_
 obtain⟨k,rfl,_⟩:=xe (List.all_eq_true.1 hw x hx)
 rfl
theorem EH {P:Program}{m n:Nat}{t:TypeId}(hm:m+1≤10000)(h:sU P m n t=true)(hg:P.eqGuardType P.depth t=false):EqT P t (nL n):=by
 have h':=h
 simp only[sU,Bool.and_eq_true,beq_iff_eq] at h'
 refine⟨fun w x y hx hy=>?_,hg,fun x hx=>(vJ hx).imp fun _ h=>h.1⟩
 obtain⟨lx,ex⟩:=sT h hx
 obtain⟨ly,ey⟩:=sT h hy
 obtain⟨r,hr,hi⟩:=run_equal_deep w (by omega:m≤10000) h'.1.1.1.1.1 h'.1.1.1.2 ex ey
 have hq:(Op.equalIn 10000 t x y).run P w=.ok r w:=hr
 rw[hq]
 congr 1
 have hxy:r=true↔x=y:=by
  rw[hi]
  refine⟨fun e=>?_,fun e=>?_⟩
  ·subst e;exact keyOf_inj_deep h'.1.1.1.1.2 h'.1.1.1.2 ex ey
  ·subst e;rw[ex] at ey;exact Option.some.inj ey
 have hv:wX x y=true↔x=y:=⟨pF,fun e=>by subst e;exact oy (Dy hx)⟩
 cases r<;>cases hh:wX x y<;>simp_all
end Go.Can
namespace Go.bg
open Go.Can
def fb (p:Int)(ls:List Int):List CV:=eA [I p,I ls.length,I 0,I 0,I 0,I 0,I 0,I 0] 2 (ls.map fun n:Int=>I n)
end Go.bg
namespace Go.Proofs.YtmnglemlimfpbaaGreat
open Go.Can Go.bg
theorem rD:∀ (k:Nat) (l:List CV),trees l=true→trees (l.drop k)=true
 | 0,l,h=>by simpa using h
 | k+1,[],_=>by simp
 | k+1,c::l,h=>by
  simp only[trees,Bool.and_eq_true] at h
  rw[List.drop_succ_cons]
  exact rD k l h.2
theorem sE (p:Int)(ls:List Int)(hl:ls.length≤6):ah Tryz.prog 53 [.agg [I p,ints ls]] (.df [.agg (fb p ls),.bool true]):=by
 have tls:tree (ints ls)=true:=by simp[ints,tree]
 have tkc:trees (fb p ls)=true:=by
  have:trees (ls.map fun n:Int=>I n)=true:=ef ls
  have hd:∀ k,trees (List.drop k [I p,I ls.length,I 0,I 0,I 0,I 0,I 0,I 0])=true:=fun k=>rD k _ rfl
  simp only[fb,eA,bh,this,hd]
  rfl
 have htr:tree (.df [.agg (fb p ls),.bool true])=true:=by simp only[tree,trees,tkc];rfl
 have hkl:(fb p ls).length=8:=by simp[fb,eA];omega
 have htk8:(fb p ls).take 8=fb p ls:=List.take_of_length_le (by omega)
 have dl:∀ k,((List.drop k [CV.int .i64 p,CV.int .i64 ls.length,CV.int .i64 0,CV.int .i64 0,CV.int .i64 0,CV.int .i64 0,CV.int .i64 0,CV.int .i64 0]).all (aG 3))=true:=fun k=>List.all_eq_true.2 fun x hx=>by
  have:=List.mem_of_mem_drop hx
  simp only[List.mem_cons,List.not_mem_nil,or_false] at this
  rcases this with rfl | rfl | rfl | rfl | rfl | rfl | rfl | rfl<;>rfl
 refine ah.bl aa Tryz.func53 rfl (by kernel_rfl) (by simp[Tryz.ntmps53]) htr fun C hC hC0=>?_
 rw[Tryz.ntmps53] at hC
 simp only[ints]
 refine T.seq (T.go' aa ?_)
 simp[hC]
 refine T.seq (T.go' aa ?_)
 simp[hC]
 have h6:¬ (6:Int)<ls.length:=by omega
 refine T.seq (T.seq (T.go' aa ?_))
 simp[hC,h6]
 refine T.cond (b:=false) (by simp[ev,assoc]) (T.skip ?_)
 simp
 have hmn:min ls.length 6=ls.length:=by omega
 have htk:(ls.map fun n:Int=>I n).take ls.length=ls.map fun n:Int=>I n:=List.take_of_length_le (by simp)
 have hon:(fb p ls).all one=true:=by
  simp[fb,eA,one]
  exact fun x hx=>by
   have:x∈[I p,I ls.length,I 0,I 0,I 0,I 0,I 0,I 0]:=List.mem_of_mem_drop hx
   simp only[List.mem_cons,List.not_mem_nil,or_false] at this
   rcases this with rfl | rfl | rfl | rfl | rfl | rfl | rfl | rfl<;>rfl
 refine T.cut (fun s=>s=⟨[(4,.aq 2 0),(2,.aq 1 0)],[(1,⟨121,0,[I 0,I 0,I 0,I 0,I 0,I 0,I 0,I 0]⟩),(2,⟨121,0,fb p ls⟩)],3⟩) ?_ ?_
 ·refine T.explore aa follows [0,2] (by kernel_rfl) (by kernel_rfl) (by simp) (TH.go' ?_)
  simp[hC]
  refine TX.two (i:=1) (j:=3) (by kernel_rfl) rfl rfl (TL.go' aa ?_) (TL.go' aa ?_)
  ·simp[hC]
   refine TX.one (i:=3) (by kernel_rfl) rfl (TL.go' aa ?_)
   simp[hC]
   refine TX.one (i:=4) (by kernel_rfl) rfl (TL.go' aa ?_)
   simp[hC,hmn,htk]
   refine TX.end (by kernel_rfl) ?_
   refine ae.trim [4,2] [1,2] 3 (by simp[-List.all_eq_true];exact⟨List.all_eq_true.2 fun _ _=>rfl,dl _⟩) (by omega) ?_
   simp[fb]
  ·simp[hC]
   refine TX.one (i:=1) (by kernel_rfl) rfl (TL.go' aa ?_)
   simp[hC]
   refine TX.one (i:=4) (by kernel_rfl) rfl (TL.go' aa ?_)
   simp[hC,hmn,htk]
   refine TX.end (by kernel_rfl) ?_
   refine ae.trim [4,2] [1,2] 3 (by simp[-List.all_eq_true];exact⟨List.all_eq_true.2 fun _ _=>rfl,dl _⟩) (by omega) ?_
   simp[fb]
 ·rintro s rfl
  have hxx:(I p::I ls.length::I 0::I 0::I 0::I 0::I 0::[I 0]).length=8:=rfl
  refine T.seq (T.go' aa ?_)
  simp[hC,hkl,htk8,List.drop_of_length_le]
  refine T.ret ?_
  refine ae.here ?_
  simp[Tryz.results53,hkl,htk8]
theorem B9 (p:Int)(ls:List Int)(hl:6<ls.length):ah Tryz.prog 53 [.agg [I p,ints ls]] (.df [.agg [I 0,I 0,I 0,I 0,I 0,I 0,I 0,I 0],.bool false]):=by
 have tls:tree (ints ls)=true:=by simp[ints,tree]
 refine ah.bl aa Tryz.func53 rfl (by kernel_rfl) (by simp[Tryz.ntmps53]) rfl fun C hC hC0=>?_
 rw[Tryz.ntmps53] at hC
 simp only[ints]
 refine T.seq (T.go' aa ?_)
 simp[hC]
 refine T.seq (T.go' aa ?_)
 simp[hC]
 have h6:(6:Int)<ls.length:=by omega
 refine T.seq (T.seq (T.go' aa ?_))
 simp[hC,h6]
 refine T.cond (b:=true) (by simp[ev,assoc]) ?_
 simp
 refine T.seq (T.go' aa ?_)
 simp[hC]
 refine T.ret ?_
 refine ae.here ?_
 simp[Tryz.results53]
end Go.Proofs.YtmnglemlimfpbaaGreat
namespace Go.bg
open Go.Can
theorem D4 {cs:List CV}(h:cs.length=11):∃ c1 c2 c3 c4 c5 c6 c7 c8 c9 c10 c11,cs=[c1,c2,c3,c4,c5,c6,c7,c8,c9,c10,c11]:=by
 match cs,h with
 | [a,b,c,d,e,f,g,h,i,j,k],_=>exact⟨a,b,c,d,e,f,g,h,i,j,k,rfl⟩
end Go.bg
namespace Go.Proofs.YtmnglemlimfpbaaGreat
open Go.Can Go.bg
theorem EG (e:Ex):(bB e).all one=true:=by cases e<;>rfl
theorem F6 (o:Option Ex):one (nu o)=true:=by rw[mf];rfl
theorem DG (q:Pl):(nO q).all one=true:=by simp only[nO,List.all_cons,List.all_nil,F6];rfl
theorem sI (x:In):(dt x).all one=true:=by
 cases x<;>simp only[dt,List.cons_append,List.nil_append,List.append_assoc,List.all_append,List.all_cons,List.all_nil,EG,DG,one,Bool.and_self,Bool.and_true,Bool.true_and]<;>rfl
theorem xT (is:Is)(q:Pl)(h:q.param=true→q.index<is.aE.length):ah Tryz.prog 29 [.agg (cg is),.agg (nO q)] (I (lF is q)):=by
 refine ah.bl aa Tryz.func29 rfl (by kernel_rfl) (by simp[Tryz.ntmps29]) rfl fun C hC hC0=>?_
 rw[Tryz.ntmps29] at hC
 simp only[cg,nO,aZ,mf]
 refine T.seq (T.go' aa ?_)
 simp[hC]
 cases hq:q.param with
 | true=>
  have hlt:=h hq
  obtain⟨n,hn⟩:∃ n,is.aE[q.index]? = some n:=⟨_,List.getElem?_eq_getElem hlt⟩
  have hdr:=pX hn
  have hmu:lF is q=n:=by simp[lF,hq,List.getD_eq_getElem?_getD,hn]
  refine T.seq (T.seq (T.go' aa ?_))
  simp[hC,hlt]
  refine T.cond (b:=true) rfl ?_
  simp
  refine T.seq (T.go' aa ?_)
  simp[hC,hlt,hdr]
  refine T.ret ?_
  refine ae.here ?_
  simp[Tryz.results29,hmu]
 | false=>
  have hmu:lF is q=q.index:=by simp[lF,hq]
  refine T.seq (T.seq (T.go' aa ?_))
  simp[hC]
  refine T.cond (b:=false) rfl (T.skip ?_)
  simp
  refine T.seq (T.go' aa ?_)
  simp[hC]
  refine T.ret ?_
  refine ae.here ?_
  simp[Tryz.results29,hmu]
def J26 (is:Is)(t:Nat)(ps:List Pl)(m:Nat)(s:St):Prop:=∃ i:Nat,m=ps.length-i∧i≤ps.length∧
 s=⟨[(52,I i),(51,I ps.length),(50,.ax (ps.flatMap nO) ps.length),(9,.aq 4 0),(6,.aq 2 0),(4,.aq 1 0)],[(1,⟨74,0,cg is⟩),(2,⟨74,0,[I 0,.ai]⟩),(4,⟨74,0,[I t,.bw 5 0 i]⟩),(5,dP ((ps.take i).map (lF is)))],6⟩
set_option maxHeartbeats 4000000 in
theorem qe (u:Un)(hu:ox u)(is:Is)(hi:qh u is)(pc:Int):ah Tryz.prog 26 [gq u,.agg (cg is),I pc] (jH (fS u is pc)):=by
 obtain⟨⟨pq,hpq,hll⟩,hlm⟩:=id hi
 have hcode:aM u is=pq.code:=by simp only[aM,hpq]
 have hpl:=(List.getElem?_eq_some_iff.1 hpq).1
 have hdr:=bG (f:=kX) (n:=5) eU hpq 4 (by omega)
 have hlen:=(hu.pr pq (List.mem_of_getElem? hpq)).2.2.2.2
 have htr:tree (jH (fS u is pc))=true:=by
  cases fS u is pc with
  | none=>rfl
  | some x=>simp only[jH,tree,trees,aO];rfl
 have tun:=dD u
 simp only[de,ints] at tun
 refine ah.bl aa Tryz.func26 rfl (by kernel_rfl) (by simp[Tryz.ntmps26]) htr fun C hC hC0=>?_
 rw[Tryz.ntmps26] at hC
 simp only[gq,de,cg,ints]
 refine T.seq (T.go' aa ?_)
 simp[hC]
 have tco:=aP pq.code
 by_cases h1:pc<0
 ·have hn:fS u is pc=none:=by simp[fS,h1]
  refine T.seq (T.seq (T.go' aa ?_))
  simp[hC,h1]
  refine T.cond (b:=true) (by simp[ev,assoc]) ?_
  simp
  refine T.seq (T.go' aa ?_)
  simp[hC]
  refine T.ret ?_
  simp
  refine ae.le (Le.trim [6,7] [2] 3 (by simp) (by omega)) ?_
  simp
  refine ae.le (Le.nz [] [2]) ?_
  refine ae.here ?_
  simp[hn,jH]
 ·obtain⟨k,rfl⟩:∃ k:Nat,pc=k:=⟨pc.toNat,by omega⟩
  by_cases h2:k<pq.code.length
  ·obtain⟨x,hx⟩:∃ x,pq.code[k]? = some x:=⟨_,List.getElem?_eq_getElem h2⟩
   have hcal:fS u is k=eT is x:=by simp[fS,hcode,hx,h1]
   have hdc:=aV (f:=dt) (n:=12) gz hx
   have hon:=sI x
   have tin:=eO x
   obtain⟨xc,hxc,hxl⟩:=p6 x
   obtain⟨c1,c2,c3,c4,c5,c6,c7,c8,c9,c10,c11,rfl⟩:=D4 hxl
   rw[hxc] at hdc hon tin
   simp only[List.all_cons,List.all_nil,Bool.and_true,Bool.and_eq_true] at hon
   obtain⟨_,o1,o2,o3,o4,o5,o6,o7,o8,o9,o10,o11⟩:=hon
   have hng:¬ ((pq.code.length:Int)≤(k:Int)):=by omega
   refine T.seq (T.seq (T.go' aa ?_))
   simp[hC,h1,hpl,hdr,kX,hng]
   refine T.cond (b:=false) rfl (T.skip ?_)
   simp
   refine T.seq (T.go' aa ?_)
   simp[hC,hpl,hdr,kX,h2,hdc]
   by_cases hop:∃ g t l ps,x=.call g t l ps
   ·obtain⟨g,t,l,ps,rfl⟩:=hop
    have hcal2:fS u is k=some ⟨t,ps.map (lF is)⟩:=by rw[hcal];rfl
    have hic:CC (u.ps.map fun q=>(q.ints,q.aE)) u.ms u.gs.length pq.locals pq.aE (pq.code.length-1) (.call g t l ps):=(hu.pc pq (List.mem_of_getElem? hpq)).2 _ (List.mem_of_getElem? hx)
    have hpv:=hic.2.2
    have hpsl:ps.length≤100:=by
     have h5:=hic.1
     rw[List.getElem?_map,Option.map_eq_some_iff] at h5
     obtain⟨q',h6,h7⟩:=h5
     simp only[Prod.mk.injEq] at h7
     have:=(hu.pr q' (List.mem_of_getElem? h6)).2.1
     omega
    rw[hcal2]
    simp only[jH]
    have hop1:tZ (.call g t l ps)=if g=true then 3 else 2:=rfl
    rw[hop1] at tin
    rw[yc] at hxc
    simp only[List.cons.injEq] at hxc
    obtain⟨_,rfl,rfl,rfl,rfl,rfl,rfl,rfl,rfl,rfl,rfl,rfl,_⟩:=hxc
    rw[hop1]
    have tpl:=ay kB ps
    generalize hgo:(if g=true then (3:Int) else 2)=op
    have hbr:(op != 2)=false∨((op != 2)=true∧(op != 3)=false):=by subst hgo;cases g<;>simp
    refine T.cut (fun s=>s=⟨[(8,.aq 3 0),(6,.aq 2 0),(4,.aq 1 0)],[(1,⟨74,0,cg is⟩),(2,⟨74,0,[I 0,.ai]⟩),(3,⟨69,0,[I op,I t,.bool false,I 0,I 0,.str eS,.ax [] 0,.bool false,I 0,.ax [] 0,.ax (l.flatMap bB) l.length,.ax (ps.flatMap nO) ps.length]⟩)],4⟩) ?_ ?_
    ·rcases hbr with hb | ⟨hb,hb2⟩
     ·refine T.seq (T.go' aa ?_)
      simp[hC,hb]
      refine T.cond (b:=false) rfl (T.skip ?_)
      simp
      refine ae.trim [8,6,4] [1,2,3] 4 (by simp[-List.all_eq_true,-List.all_flatMap,aB 4 _ (aN is.aE)]) (by omega) ?_
      simp[cg]
     ·refine T.seq (T.go' aa ?_)
      simp[hC,hb,hb2]
      refine T.cond (b:=false) rfl (T.skip ?_)
      simp
      refine ae.trim [8,6,4] [1,2,3] 4 (by simp[-List.all_eq_true,-List.all_flatMap,aB 4 _ (aN is.aE)]) (by omega) ?_
      simp[cg]
    ·rintro s rfl
     simp only[cg]
     refine T.seq (T.go' aa ?_)
     simp[hC]
     refine T.seq (T.seq (T.go' aa ?_))
     simp[hC]
     refine T.block ?_
     refine T.aS (J26 is t ps) (n:=ps.length) ?_ ?_
     ·refine ae.le (Le.lK 4 1 3 1 rfl rfl) ?_
      simp
      refine ae.trim [52,51,50,9,6,4] [1,2,4,5] 6 (by simp[-List.all_eq_true,-List.all_flatMap,aB 6 _ (aN is.aE)]) (by omega) ⟨0,by omega,by omega,?_⟩
      simp[cg,dP]
     ·rintro n s ⟨i,rfl,hi',rfl⟩
      by_cases hil:i<ps.length
      ·obtain⟨q,hq⟩:∃ q,ps[i]? = some q:=⟨ps[i],List.getElem?_eq_getElem hil⟩
       have hdq:=aV (f:=nO) (n:=3) oM hq
       have hqv:q.param=true→q.index<is.aE.length:=fun hp=>by
        rcases hpv q (List.mem_of_getElem? hq) with ⟨_,h8,_⟩ | ⟨h8,_⟩
        ·omega
        ·rw[hp] at h8;cases h8
       have hmx:=xT is q hqv
       have wi:=db ((i:Int)+1) (by omega) (by omega)
       have htk:ps.take (i+1)=ps.take i++[q]:=by rw[List.take_add_one,hq];rfl
       have hml:((ps.take i).map (lF is)).length=i:=by simp;omega
       have tN:=ch ((ps.take i).map (lF is))
       have bd1:(i+1)*8≤140737488355328:=by omega
       obtain⟨q1,q2,q3,q4,hqc,tq⟩:=vM q
       rw[hqc] at hdq hmx
       generalize hG:(ps.take i).map (lF is)=G at hml tN
       simp only[cg,dP] at hmx ⊢
       refine T.seq (T.go' aa ?_)
       simp[hC,hil]
       refine T.seq (T.cond (b:=true) rfl (T.skip ?_))
       simp
       refine T.seq (T.block ?_)
       refine T.seq (T.go' aa ?_)
       simp[hC,hdq,hil]
       refine T.rx aa follows [0,1,2,3,4,5,6,7,8] [(1,4),(1,5)] (by kernel_rfl) ?_
       simp[hC]
       have targ:trees [.agg [I is.proc,aZ is.aE],.agg [.bool q1,I q2,.ax q3 q4]]=true:=by
        simp only[trees,tree,aN,Bool.and_true]
       refine RX.call rfl rfl rfl rfl rfl targ hmx ?_
       simp[hml,bd1,aX]
       refine T.go' aa ?_
       simp[hC,wi]
       refine⟨ps.length-(i+1),by omega,?_⟩
       have tN2:trees ((G.map fun n:Nat=>I n)++[I (lF is q)])=true:=by rw[bh,tN];rfl
       have hin:=aA tN2
       have hrn:=fun ρ=>az ρ _ tN2
       have tnt:=aN is.aE
       simp only[aZ,tree] at tnt
       simp only[aZ]
       refine ae.le (Le.norm [52,51,50,9,6,4] [(1,1),(2,2),(4,4),(16,5)] 0 6 (by first | rfl | decide) (by simp[assoc]) (by simp[ca,lN,ky,tree,assoc,-List.all_eq_true,-List.all_flatMap,hin]) (by omega)) ?_
       simp[cW,bD,bJ,dr,fx,assoc,hrn]
       refine ae.here ⟨i+1,rfl,by omega,?_⟩
       simp[cg,dP,htk,hG,aZ]
      ·have hie:i=ps.length:=by omega
       subst hie
       rw[List.take_length]
       have tN:=ch (ps.map (lF is))
       have tkN:List.take ps.length ((ps.map (lF is)).map fun n:Nat=>I n)=(ps.map (lF is)).map fun n:Nat=>I n:=List.take_of_length_le (by simp)
       have hnt:aZ (ps.map (lF is))=.ax ((ps.map (lF is)).map fun n:Nat=>I n) ps.length:=by simp[aZ]
       simp only[cg,dP]
       rw[hnt]
       generalize hG:((ps.map (lF is)).map fun n:Nat=>I n)=G at tN tkN
       refine T.seq (T.go' aa ?_)
       simp[hC]
       refine T.seq (T.cond (b:=false) rfl ?_)
       simp
       refine T.exit ?_
       simp
       refine T.seq (T.go' aa ?_)
       simp[hC]
       refine T.ret ?_
       refine ae.le (Le.trim [6,7] [2,5] 6 (by simp[-List.all_eq_true,-List.all_flatMap,af tN]) (by omega)) ?_
       simp
       refine ae.le (Le.eM (o:=5) rfl tN) ?_
       simp[tkN]
       refine ae.here ?_
       simp
   ·have hn:fS u is k=none:=by
     rw[hcal]
     cases x with
     | call g t l ps=>exact (hop ⟨g,t,l,ps,rfl⟩).elim
     | _=>rfl
    have ho2:((tZ x != 2)=true)∧((tZ x != 3)=true):=by
     cases x with
     | call g t l ps=>exact (hop ⟨g,t,l,ps,rfl⟩).elim
     | lock u _=>cases u<;>exact⟨rfl,rfl⟩
     | _=>exact⟨rfl,rfl⟩
    refine T.seq (T.seq (T.go' aa ?_))
    simp[hC,ho2.1,ho2.2]
    refine T.cond (b:=true) rfl ?_
    simp
    refine T.seq (T.go' aa ?_)
    simp[hC]
    refine T.ret ?_
    simp
    refine ae.le (Le.trim [6,7] [2] 4 (by simp) (by omega)) ?_
    simp
    refine ae.le (Le.nz [] [2]) ?_
    refine ae.here ?_
    simp[hn,jH]
  ·have hn:fS u is k=none:=by simp[fS,hcode,List.getElem?_eq_none (Nat.le_of_not_lt h2)]
   have hng:(pq.code.length:Int)≤(k:Int):=by omega
   refine T.seq (T.seq (T.go' aa ?_))
   simp[hC,h1,hpl,hdr,kX,hng]
   refine T.cond (b:=true) rfl ?_
   simp
   refine T.seq (T.go' aa ?_)
   simp[hC]
   refine T.ret ?_
   simp
   refine ae.le (Le.trim [6,7] [2] 3 (by simp) (by omega)) ?_
   simp
   refine ae.le (Le.nz [] [2]) ?_
   refine ae.here ?_
   simp[hn,jH]
end Go.Proofs.YtmnglemlimfpbaaGreat
namespace Go.bg
open Go.Can
def ui (p:Int)(ls:List Int):List Int:=[p,ls.length]++ls++List.replicate (6-ls.length) 0
theorem rh (p:Int)(ls:List Int)(h:ls.length≤6):fb p ls=(ui p ls).map fun n:Int=>I n:=by
 match ls,h with
 | [],_=>rfl
 | [_],_=>rfl
 | [_,_],_=>rfl
 | [_,_,_],_=>rfl
 | [_,_,_,_],_=>rfl
 | [_,_,_,_,_],_=>rfl
 | [_,_,_,_,_,_],_=>rfl
 | _::_::_::_::_::_::_::_,h=>simp at h
theorem x7 {p p':Int}{ls ls':List Int}:ui p ls=ui p' ls'↔p=p'∧ls=ls':=by
 refine⟨fun h=>?_,fun⟨h1,h2⟩=>by rw[h1,h2]⟩
 simp only[ui,List.cons_append,List.nil_append,List.cons.injEq] at h
 obtain⟨h1,h2,h3⟩:=h
 refine⟨h1,?_⟩
 have hl:ls.length=ls'.length:=by omega
 have:=congrArg (List.take ls.length) h3
 rwa [List.take_left,hl,List.take_left] at this
def x6 (p:Int)(ls:List Int):Value:=.agg ((ui p ls).map fun n:Int=>Value.int .i64 n).toArray
theorem EP (l:List Int):IL (l.map fun n:Int=>I n)=some (l.map fun n:Int=>Value.int .i64 n):=by
 induction l with
 | nil=>rfl
 | cons a r ih=>simp only[List.map_cons,IL,cv1,ih]
theorem qb (p:Int)(ls:List Int)(h:ls.length≤6):iB (.agg (fb p ls))=some (x6 p ls):=by
 rw[rh p ls h]
 simp only[iB,EP,x6]
theorem uw:∀ (a b:List Int),tM (a.map fun n:Int=>Value.int .i64 n) (b.map fun n:Int=>Value.int .i64 n)=decide (a=b)
 | [],[]=>rfl
 | [],_::_=>rfl
 | _::_,[]=>rfl
 | x::a,y::b=>by
  simp only[List.map_cons,tM,uw a b,y8]
  by_cases h:x=y<;>simp[h]
theorem Ah (p p':Int)(ls ls':List Int):wX (x6 p ls) (x6 p' ls')=(decide (p=p') && decide (ls=ls')):=by
 simp only[x6,wX,uw]
 by_cases h:ui p ls=ui p' ls'
 ·have:=x7.1 h
  simp[this.1,this.2]
 ·have h2:¬ (p=p'∧ls=ls'):=fun e=>h (x7.2 e)
  rw[decide_eq_false h]
  by_cases e:p=p'<;>simp_all
theorem rX (p:Int)(ls:List Int)(h:ls.length≤6)(hp:nw p=true)(hls:∀ n∈ls,nw n=true):nL 8 (x6 p ls)=true:=by
 have h2:nw (ls.length:Int)=true:=by simp only[nw,Bool.and_eq_true,decide_eq_true_eq];omega
 simp only[nL,x6,Bool.and_eq_true,decide_eq_true_eq]
 refine⟨by simp[ui];omega,List.all_eq_true.2 fun v hv=>?_⟩
 simp only[List.mem_map,ui,List.mem_append,List.mem_cons,List.not_mem_nil,or_false,List.mem_replicate] at hv
 obtain⟨n,hn,rfl⟩:=hv
 simp only[wI]
 rcases hn with ((rfl | rfl) | hn) | ⟨_,rfl⟩
 ·exact hp
 ·exact h2
 ·exact hls n hn
 ·rfl
theorem va (p:Int)(ls:List Int)(hls:6<ls.length):∀ (l:List Is) (i:Int),(∀ x∈l,x.aE.length≤6)→gN l p ls i=-1
 | [],_,_=>rfl
 | y::r,i,h=>by
  have hy:=h y List.mem_cons_self
  rw[gN,if_neg,va p ls hls r (i+1) fun x hx=>h x (List.mem_cons_of_mem _ hx)]
  simp only[kE,Bool.and_eq_true,decide_eq_true_eq]
  rintro⟨_,e⟩
  rw[← e] at hls
  simp at hls
  omega
end Go.bg
namespace Go.Proofs.YtmnglemlimfpbaaGreat
open Go.Can Go.bg
theorem AJ:sU Tryz.prog 3 8 121=true:=by kernel_rfl
theorem keyEq:EqT Tryz.prog 121 (nL 8):=EH (by omega) AJ (by kernel_rfl)
theorem keyEI:I9 Tryz.prog [⟨121,nL 8⟩]:=fun x hx=>by
 simp only[List.mem_cons,List.not_mem_nil,or_false] at hx
 subst hx
 exact keyEq
theorem EJ {C:Cx}{s:St}{o:Oper}{x y:Operand}{q:TypeId}{cx cy:CV}{vx vy:Value}(hd:aW C.nt o.dst=true)(ho:o.op=.binOp .eql 121 x y q)(hx:ev s x=some cx)(hy:ev s y=some cy)(h1:iB cx=some vx)(h2:iB cy=some vy)(k1:nL 8 vx=true)(k2:nL 8 vy=true):pA Tryz.prog C o s (s.put o.dst (.bool (wX vx vy))):=
 yn keyEI hd (by simp only[AT,ho,hx,hy,h1,h2,J2,if_true,k1,k2,and_self])
theorem sG (p:Int)(ls:List Int)(h:ls.length≤6):(fb p ls).length=8:=by simp[fb,eA];omega
theorem pZ (p:Int)(ls:List Int)(h:ls.length≤6):(fb p ls).all one=true:=by
 rw[rh p ls h]
 exact List.all_eq_true.2 fun x hx=>by
  obtain⟨n,_,rfl⟩:=List.mem_map.1 hx
  rfl
theorem nV (p:Int)(ls:List Int)(h:ls.length≤6):trees (fb p ls)=true:=by
 rw[rh p ls h]
 exact ef _
def J31 (l:List Is)(p:Int)(ls:List Int)(n:Nat)(s:St):Prop:=∃ i:Nat,n=l.length-i∧i≤l.length∧gN l p ls 0=gN (l.drop i) p ls i∧
 s=⟨[(21,I i),(20,I l.length),(19,.ax (l.flatMap cg) l.length),(5,.aq 2 0)],[(2,⟨121,0,fb p ls⟩)],3⟩
set_option maxHeartbeats 4000000 in
theorem sJ (l:List Is)(hl:l.length≤100000)(hll:∀ x∈l,x.aE.length≤6∧nw x.proc=true∧∀ n∈x.aE,nw (n:Int)=true)(X Y:CV)(_hX:tree X=true)(_hY:tree Y=true)(p:Int)(ls:List Int)(hp:nw p=true)(hls:∀ n∈ls,nw n=true) :
  ah Tryz.prog 31 [.agg [.ax (l.flatMap cg) l.length,X,Y],.agg [I p,ints ls]] (I (gN l p ls 0)):=by
 have tls:tree (ints ls)=true:=by simp[ints,tree]
 have targ:trees [.agg [I p,ints ls]]=true:=by simp only[trees,tree,tls,Bool.and_self]
 refine ah.bl aa Tryz.func31 rfl (by kernel_rfl) (by simp[Tryz.ntmps31]) rfl fun C hC hC0=>?_
 rw[Tryz.ntmps31] at hC
 refine T.seq (T.go' aa ?_)
 simp[hC]
 by_cases h6:ls.length≤6
 ·have hkl:=sG p ls h6
  have hko:=pZ p ls h6
  have htk8:(fb p ls).take 8=fb p ls:=List.take_of_length_le (by omega)
  have tkc:=nV p ls h6
  refine T.seq (T.go' aa ?_)
  simp[hC]
  refine TL.call (by simp[hC]) rfl rfl (aI.of rfl targ (sE p ls h6)) (TL.go' aa ?_)
  simp[hC,hkl]
  refine T.seq (T.seq (T.go' aa ?_))
  simp[hC]
  refine T.cond (b:=false) rfl (T.skip ?_)
  simp
  refine T.seq (T.seq (T.go' aa ?_))
  simp[hC]
  refine T.block ?_
  refine T.aS (J31 l p ls) (n:=l.length) ?_ ?_
  ·refine ae.trim [21,20,19,5] [2] 3 (by simp[-List.all_eq_true,-List.all_flatMap,af tkc]) (by omega) ⟨0,by omega,by omega,rfl,?_⟩
   simp
  ·rintro n s ⟨i,rfl,hi,hf,rfl⟩
   by_cases hil:i<l.length
   ·obtain⟨y,hy⟩:∃ y,l[i]? = some y:=⟨l[i],List.getElem?_eq_getElem hil⟩
    have hd:l.drop i=y::l.drop (i+1):=by
     rw[List.drop_eq_getElem_cons hil,(List.getElem?_eq_some_iff.1 hy).2]
    rw[hd,gN] at hf
    have hdr:=aV (f:=cg) (n:=2) dh hy
    have wi:=db ((i:Int)+1) (by omega) (by omega)
    obtain⟨hy6,hyp,hyl⟩:=hll y (List.mem_of_getElem? hy)
    have hy6':(y.aE.map fun n:Nat=>(n:Int)).length≤6:=by simpa using hy6
    have hyls:∀ n∈(y.aE.map fun n:Nat=>(n:Int)),nw n=true:=fun n hn=>by
     obtain⟨m,hm,rfl⟩:=List.mem_map.1 hn
     exact hyl m hm
    have targ2:trees [.agg [I y.proc,aZ y.aE]]=true:=by simp only[trees,tree,aN,Bool.and_self]
    have hkey:=sE y.proc _ hy6'
    rw[← en] at hkey
    have hkl2:=sG y.proc _ hy6'
    have htk82:(fb y.proc (y.aE.map fun n:Nat=>(n:Int))).take 8=fb y.proc (y.aE.map fun n:Nat=>(n:Int)):=List.take_of_length_le (by omega)
    have tkc2:=nV y.proc _ hy6'
    have hko2:=pZ y.proc _ hy6'
    have hcv:=qb p ls h6
    have hcv2:=qb y.proc _ hy6'
    have hre:=rX p ls h6 hp hls
    have hre2:=rX y.proc _ hy6' hyp hyls
    have hveq:=Ah y.proc p (y.aE.map fun n:Nat=>(n:Int)) ls
    have hraw:kE y p ls=(decide ((y.proc:Int)=p) && decide ((y.aE.map fun n:Nat=>(n:Int))=ls)):=rfl
    generalize (y.aE.map fun n:Nat=>(n:Int))=yl at hraw hkey hkl2 htk82 tkc2 hko2 hcv2 hre2 hveq
    refine T.seq (T.go' aa ?_)
    simp[hC,hil]
    refine T.seq (T.cond (b:=true) rfl (T.skip ?_))
    simp
    refine T.seq (T.block ?_)
    refine T.seq (T.go' aa ?_)
    simp[hC,hil,hdr,cg]
    refine T.seq (T.go' aa ?_)
    simp[hC]
    refine TL.call (by simp[hC]) rfl rfl (aI.of rfl targ2 hkey) (TL.go' aa ?_)
    simp[hC,hkl2]
    refine T.seq (T.region (TL.some aa 2 ?_))
    simp[hC,hkl,htk8,hkl2,htk82]
    refine mq rfl (EJ (x:=.tmp 31) (y:=.tmp 32) (cx:=.agg (fb y.proc yl)) (cy:=.agg (fb p ls)) (by simp[hC]) rfl (by simp) (by simp) hcv2 hcv hre2 hre) ?_
    rw[hveq,← hraw]
    refine TL.go' aa ?_
    simp
    cases hr:kE y p ls with
    | true=>
     rw[if_pos hr] at hf
     refine T.cond (b:=true) rfl ?_
     simp
     refine T.seq (T.go' aa ?_)
     simp[hC]
     refine T.ret ?_
     refine ae.here ?_
     simp[Tryz.results31,hf]
    | false=>
     rw[if_neg (by simp[hr])] at hf
     refine T.cond (b:=false) rfl (T.skip ?_)
     simp
     refine T.go' aa ?_
     simp[hC,wi]
     refine⟨l.length-(i+1),by omega,ae.trim [21,20,19,5] [2] 3 (by simp[-List.all_eq_true,-List.all_flatMap,af tkc]) (by omega) ⟨i+1,rfl,by omega,hf,?_⟩⟩
     simp
   ·have hie:i=l.length:=by omega
    rw[hie,List.drop_length,gN] at hf
    have hres:=hf
    refine T.seq (T.go' aa ?_)
    simp[hC,hil]
    refine T.seq (T.cond (b:=false) rfl ?_)
    simp
    refine T.exit ?_
    simp
    refine T.seq (T.go' aa ?_)
    simp[hC]
    refine T.ret ?_
    refine ae.here ?_
    simp[Tryz.results31,hres]
 ·have h6':6<ls.length:=by omega
  have hres:=va p ls h6' l 0 fun x hx=>(hll x hx).1
  refine T.seq (T.go' aa ?_)
  simp[hC]
  refine TL.call (by simp[hC]) rfl rfl (aI.of rfl targ (B9 p ls h6')) (TL.go' aa ?_)
  simp[hC]
  refine T.seq (T.seq (T.go' aa ?_))
  simp[hC]
  refine T.cond (b:=true) rfl ?_
  simp
  refine T.seq (T.go' aa ?_)
  simp[hC]
  refine T.ret ?_
  refine ae.here ?_
  simp[Tryz.results31,hres]
end Go.Proofs.YtmnglemlimfpbaaGreat
