/- lockordermade's programs as plain functions of the numbers: expressions. No function of the program is mentioned here. | A square matrix of bools in memory: a slice of rows, each an object of its own. No function of the program is mentioned here. | A vector in memory, as a function of the place. No function of the program is mentioned here. | The types of this program that the walks ask for. | An  -/
import Derived.Test.YtmnglemlimfpbaaGreatZ14
import Derived.Test.YtmnglemlimfpbaaGreatZ17
import Derived.Test.YtmnglemlimfpbaaGreatZ07
import Derived.Test.YtmnglemlimfpbaaGreatZ08
import Derived.Test.YtmnglemlimfpbaaGreatProg
import Derived.KernelRfl
namespace Go.bg
open Go.Can
def bS (L:List Int)(i n:Nat):Nat×Nat:=match L[i]? with
 | none=>(0,i)
 | some x=>((x % (n:Int)).toNat,i+1)
theorem cX (L:List Int)(i:Nat){n:Nat}(h:0<n):(bS L i n).1<n:=by
 unfold bS
 split
 ·exact h
 ·rename_i x _
  have h1:=Int.emod_nonneg x (show (n:Int)≠0 by omega)
  have h2:=Int.emod_lt_of_pos x (show (0:Int)<n by omega)
  simp only
  omega
theorem a8 (L:List Int){i:Nat}(n:Nat)(h:i≤L.length):(bS L i n).2≤L.length:=by
 unfold bS
 split
 ·exact h
 ·rename_i x hx
  exact (List.getElem?_eq_some_iff.1 hx).1
def ug (L:List Int)(i:Nat):Nat×Nat:=if (bS L i 8).1=1 then bS L (bS L i 8).2 4611686018427387904 else bS L (bS L i 8).2 4
theorem Gd (L:List Int)(i:Nat):(ug L i).1<4611686018427387904:=by
 unfold ug
 split
 ·exact cX _ _ (by omega)
 ·exact Nat.lt_of_lt_of_le (cX L _ (show 0<4 by omega)) (by omega)
theorem Ge (L:List Int){i:Nat}(h:i≤L.length):(ug L i).2≤L.length:=by
 unfold ug
 split
 ·exact a8 _ _ (a8 _ _ h)
 ·exact a8 _ _ (a8 _ _ h)
def oT (L:List Int)(ns:List ByteArray)(i:Nat):Ex×Nat:=
 if 0<ns.length∧(bS L i 2).1=1 then (.nm (ns.getD (bS L (bS L i 2).2 ns.length).1 eS),(bS L (bS L i 2).2 ns.length).2)
 else (.num (ug L (if 0<ns.length then (bS L i 2).2 else i)).1,(ug L (if 0<ns.length then (bS L i 2).2 else i)).2)
theorem x5 (L:List Int)(ns:List ByteArray){i:Nat}(h:i≤L.length):(oT L ns i).2≤L.length:=by
 unfold oT
 split
 ·exact a8 _ _ (a8 _ _ h)
 ·refine Ge L ?_
  split
  ·exact a8 _ _ h
  ·exact h
def pd (L:List Int)(ns:List ByteArray):Nat→Nat→Ex×Nat
 | 0,i=>oT L ns (bS L i 10).2
 | d+1,i=>
  if (bS L i 10).1<2 then oT L ns (bS L i 10).2
  else if (bS L i 10).1<4 then (.un ((bS L i 10).1 % 2) (pd L ns d (bS L i 10).2).1,(pd L ns d (bS L i 10).2).2)
  else (.bin (bS L (bS L i 10).2 13).1 (pd L ns d (bS L (bS L i 10).2 13).2).1 (pd L ns d (pd L ns d (bS L (bS L i 10).2 13).2).2).1,(pd L ns d (pd L ns d (bS L (bS L i 10).2 13).2).2).2)
theorem mr (L:List Int)(ns:List ByteArray):∀ (d:Nat) {i:Nat},i≤L.length→(pd L ns d i).2≤L.length
 | 0,i,h=>x5 L ns (a8 _ _ h)
 | d+1,i,h=>by
  rw[pd]
  split
  ·exact x5 L ns (a8 _ _ h)
  ·split
   ·exact mr L ns d (a8 _ _ h)
   ·exact mr L ns d (mr L ns d (a8 _ _ (a8 _ _ h)))
def da (L:List Int)(ar:Bool)(vars:List ByteArray)(i:Nat):Ex×Nat:=if ar=true then pd L vars (1+(bS L i 2).1) (bS L i 2).2 else pd L vars 0 i
def nc (L:List Int)(ar:Bool)(vars:List ByteArray)(size i:Nat):Ex×Nat:=
 if ar=true∧(bS L i 3).1=1 then pd L vars 1 (bS L i 3).2 else (.num (bS L (if ar=true then (bS L i 3).2 else i) size).1,(bS L (if ar=true then (bS L i 3).2 else i) size).2)
theorem jw (L:List Int)(ar:Bool)(vars:List ByteArray){i:Nat}(h:i≤L.length):(da L ar vars i).2≤L.length:=by
 unfold da
 split
 ·exact mr _ _ _ (a8 _ _ h)
 ·exact mr _ _ _ h
theorem Gx (L:List Int)(ar:Bool)(vars:List ByteArray)(size:Nat){i:Nat}(h:i≤L.length):(nc L ar vars size i).2≤L.length:=by
 unfold nc
 split
 ·exact mr _ _ _ (a8 _ _ h)
 ·refine a8 _ _ ?_
  split
  ·exact a8 _ _ h
  ·exact h
def CF (p:Pm):List ByteArray:=if p.mutex=true then [p.name,p.name] else []
def bN (ms:List Mx)(ps:List Pm):List ByteArray:=ms.map (·.name)++ps.flatMap CF
def jZ (ms:List Mx)(j:Nat):Nat:=match ms[j]? with
 | some m=>m.size
 | none=>0
def iM (L:List Int)(ar:Bool)(ms:List Mx)(ps:List Pm)(vars:List ByteArray)(i:Nat):Rf×Nat:=
 if (bS L i (bN ms ps).length).1<ms.length∧0<jZ ms (bS L i (bN ms ps).length).1 then
  (⟨(bN ms ps).getD (bS L i (bN ms ps).length).1 eS,some (nc L ar vars (jZ ms (bS L i (bN ms ps).length).1) (bS L i (bN ms ps).length).2).1⟩,(nc L ar vars (jZ ms (bS L i (bN ms ps).length).1) (bS L i (bN ms ps).length).2).2)
 else (⟨(bN ms ps).getD (bS L i (bN ms ps).length).1 eS,none⟩,(bS L i (bN ms ps).length).2)
theorem oL (L:List Int)(ar:Bool)(ms:List Mx)(ps:List Pm)(vars:List ByteArray){i:Nat}(h:i≤L.length):(iM L ar ms ps vars i).2≤L.length:=by
 unfold iM
 split
 ·exact Gx _ _ _ _ (a8 _ _ h)
 ·exact a8 _ _ h
def cU (L:List Int)(ar:Bool)(ms:List Mx)(ps:List Pm)(vars:List ByteArray):List Pm→Nat→List Ar×Nat
 | [],i=>([],i)
 | p::r,i=>if p.mutex=true then (.sr (iM L ar ms ps vars i).1::(cU L ar ms ps vars r (iM L ar ms ps vars i).2).1,(cU L ar ms ps vars r (iM L ar ms ps vars i).2).2)
  else (.exp (da L ar vars i).1::(cU L ar ms ps vars r (da L ar vars i).2).1,(cU L ar ms ps vars r (da L ar vars i).2).2)
theorem pw (L:List Int)(ar:Bool)(ms:List Mx)(ps:List Pm)(vars:List ByteArray):∀ (l:List Pm) {i:Nat},i≤L.length→(cU L ar ms ps vars l i).2≤L.length
 | [],_,h=>h
 | p::r,i,h=>by
  rw[cU]
  split
  ·exact pw L ar ms ps vars r (oL _ _ _ _ _ h)
  ·exact pw L ar ms ps vars r (jw _ _ _ h)
def strs (ns:List ByteArray):CV:=.ax (ns.map .str) ns.length
end Go.bg


namespace Go.Proofs.YtmnglemlimfpbaaGreat
open Go.Can
def aj:List (Nat×TI):=[
 (3,⟨.int .i64,1,8,[.int .i64 0]⟩),
 (4,⟨.bool,1,1,[.bool false]⟩),
 (5,⟨.int .u8,1,1,[.int .u8 0]⟩),
 (6,⟨.int .u8,1,1,[.int .u8 0]⟩),
 (9,⟨.str,1,16,[.str ⟨#[]⟩]⟩),
 (22,⟨.sl 3,1,24,[.ai]⟩),
 (23,⟨.sl 133,1,24,[.ai]⟩),
 (24,⟨.sl 95,1,24,[.ai]⟩),
 (25,⟨.sl 137,1,24,[.ai]⟩),
 (27,⟨.bX [(0,23),(1,24),(2,25)],3,72,[.ai,.ai,.ai]⟩),
 (28,⟨.sl 72,1,24,[.ai]⟩),
 (30,⟨.bX [(0,22),(1,24),(2,28),(3,3)],4,80,[.ai,.ai,.ai,.int .i64 0]⟩),
 (31,⟨.sl 74,1,24,[.ai]⟩),
 (32,⟨.sl 22,1,24,[.ai]⟩),
 (34,⟨.bX [(0,31),(1,32),(2,22)],3,72,[.ai,.ai,.ai]⟩),
 (55,⟨.int .i64,1,8,[.int .i64 0]⟩),
 (62,⟨.sl 64,1,24,[.ai]⟩),
 (64,⟨.bX [(0,3),(1,3),(2,9),(3,62)],4,56,[.int .i64 0,.int .i64 0,.str ⟨#[]⟩,.ai]⟩),
 (66,⟨.bX [(0,4),(1,3),(2,62)],3,40,[.bool false,.int .i64 0,.ai]⟩),
 (67,⟨.sl 66,1,24,[.ai]⟩),
 (69,⟨.bX [(0,3),(1,3),(2,4),(3,64),(7,66),(10,62),(11,67)],12,168,[.int .i64 0,.int .i64 0,.bool false,.int .i64 0,.int .i64 0,.str ⟨#[]⟩,.ai,.bool false,.int .i64 0,.ai,.ai,.ai]⟩),
 (70,⟨.sl 69,1,24,[.ai]⟩),
 (72,⟨.bX [(0,9),(1,3),(2,3),(3,3),(4,70)],5,64,[.str ⟨#[]⟩,.int .i64 0,.int .i64 0,.int .i64 0,.ai]⟩),
 (74,⟨.bX [(0,3),(1,22)],2,32,[.int .i64 0,.ai]⟩),
 (80,⟨.sl 4,1,24,[.ai]⟩),
 (95,⟨.bX [(0,9),(1,4),(2,3)],3,32,[.str ⟨#[]⟩,.bool false,.int .i64 0]⟩),
 (106,⟨.sl 5,1,24,[.ai]⟩),
 (111,⟨.Ie,1,8,[.any]⟩),
 (113,⟨.bX [(0,30),(4,34),(7,111),(8,3)],9,168,[.ai,.ai,.ai,.int .i64 0,.ai,.ai,.ai,.any,.int .i64 0]⟩),
 (119,⟨.arr 6 3,6,48,[.int .i64 0,.int .i64 0,.int .i64 0,.int .i64 0,.int .i64 0,.int .i64 0]⟩),
 (121,⟨.bX [(0,3),(1,3),(2,119)],8,64,[.int .i64 0,.int .i64 0,.int .i64 0,.int .i64 0,.int .i64 0,.int .i64 0,.int .i64 0,.int .i64 0]⟩),
 (125,⟨.ptr 127,1,8,[.br]⟩),
 (127,⟨.bX [(0,22),(1,3)],2,32,[.ai,.int .i64 0]⟩),
 (129,⟨.bX [(0,125),(1,27),(4,3),(5,4)],6,96,[.br,.ai,.ai,.ai,.int .i64 0,.bool false]⟩),
 (131,⟨.sl 9,1,24,[.ai]⟩),
 (133,⟨.bX [(0,9),(1,3)],2,24,[.str ⟨#[]⟩,.int .i64 0]⟩),
 (134,⟨.sl 139,1,24,[.ai]⟩),
 (135,⟨.sl 188,1,24,[.ai]⟩),
 (137,⟨.bX [(0,9),(1,134),(2,135)],3,64,[.str ⟨#[]⟩,.ai,.ai]⟩),
 (139,⟨.bX [(0,9),(1,4)],2,24,[.str ⟨#[]⟩,.bool false]⟩),
 (142,⟨.sl 146,1,24,[.ai]⟩),
 (146,⟨.bX [(0,9),(1,3),(2,3)],3,32,[.str ⟨#[]⟩,.int .i64 0,.int .i64 0]⟩),
 (157,⟨.sl 172,1,24,[.ai]⟩),
 (162,⟨.bX [(0,157),(1,3),(2,3),(3,55),(4,3),(5,3)],6,64,[.ai,.int .i64 0,.int .i64 0,.int .i64 0,.int .i64 0,.int .i64 0]⟩),
 (172,⟨.bX [(0,3),(1,9),(2,3),(3,3)],4,40,[.int .i64 0,.str ⟨#[]⟩,.int .i64 0,.int .i64 0]⟩),
 (183,⟨.int .u64,1,8,[.int .u64 0]⟩),
 (185,⟨.bX [(0,9),(1,62)],2,40,[.str ⟨#[]⟩,.ai]⟩),
 (186,⟨.sl 227,1,24,[.ai]⟩),
 (188,⟨.bX [(0,3),(1,9),(2,64),(6,185),(8,186),(9,135),(10,135)],11,192,[.int .i64 0,.str ⟨#[]⟩,.int .i64 0,.int .i64 0,.str ⟨#[]⟩,.ai,.str ⟨#[]⟩,.ai,.ai,.ai,.ai]⟩),
 (196,⟨.bX [(0,27),(3,142),(4,3),(5,3),(6,3),(7,55),(8,70),(9,22)],10,176,[.ai,.ai,.ai,.ai,.int .i64 0,.int .i64 0,.int .i64 0,.int .i64 0,.ai,.ai]⟩),
 (222,⟨.int .u32,1,4,[.int .u32 0]⟩),
 (224,⟨.int .u64,1,8,[.int .u64 0]⟩),
 (227,⟨.bX [(0,4),(1,185),(3,64)],7,104,[.bool false,.str ⟨#[]⟩,.ai,.int .i64 0,.int .i64 0,.str ⟨#[]⟩,.ai]⟩),
 (244,⟨.int .u64,1,8,[.int .u64 0]⟩)]
theorem aa:aF Tryz.prog aj:=
 aF.cons (ct.mk' (by kernel_rfl) (by kernel_rfl) rfl) <|
 aF.cons (ct.mk' (by kernel_rfl) (by kernel_rfl) rfl) <|
 aF.cons (ct.mk' (by kernel_rfl) (by kernel_rfl) rfl) <|
 aF.cons (ct.mk' (by kernel_rfl) (by kernel_rfl) rfl) <|
 aF.cons (ct.mk' (by kernel_rfl) (by kernel_rfl) rfl) <|
 aF.cons (ct.mk' (by kernel_rfl) (by kernel_rfl) rfl) <|
 aF.cons (ct.mk' (by kernel_rfl) (by kernel_rfl) rfl) <|
 aF.cons (ct.mk' (by kernel_rfl) (by kernel_rfl) rfl) <|
 aF.cons (ct.mk' (by kernel_rfl) (by kernel_rfl) rfl) <|
 aF.cons (ct.mk' (by kernel_rfl) (by kernel_rfl) rfl) <|
 aF.cons (ct.mk' (by kernel_rfl) (by kernel_rfl) rfl) <|
 aF.cons (ct.mk' (by kernel_rfl) (by kernel_rfl) rfl) <|
 aF.cons (ct.mk' (by kernel_rfl) (by kernel_rfl) rfl) <|
 aF.cons (ct.mk' (by kernel_rfl) (by kernel_rfl) rfl) <|
 aF.cons (ct.mk' (by kernel_rfl) (by kernel_rfl) rfl) <|
 aF.cons (ct.mk' (by kernel_rfl) (by kernel_rfl) rfl) <|
 aF.cons (ct.mk' (by kernel_rfl) (by kernel_rfl) rfl) <|
 aF.cons (ct.mk' (by kernel_rfl) (by kernel_rfl) rfl) <|
 aF.cons (ct.mk' (by kernel_rfl) (by kernel_rfl) rfl) <|
 aF.cons (ct.mk' (by kernel_rfl) (by kernel_rfl) rfl) <|
 aF.cons (ct.mk' (by kernel_rfl) (by kernel_rfl) rfl) <|
 aF.cons (ct.mk' (by kernel_rfl) (by kernel_rfl) rfl) <|
 aF.cons (ct.mk' (by kernel_rfl) (by kernel_rfl) rfl) <|
 aF.cons (ct.mk' (by kernel_rfl) (by kernel_rfl) rfl) <|
 aF.cons (ct.mk' (by kernel_rfl) (by kernel_rfl) rfl) <|
 aF.cons (ct.mk' (by kernel_rfl) (by kernel_rfl) rfl) <|
 aF.cons (ct.mk' (by kernel_rfl) (by kernel_rfl) rfl) <|
 aF.cons (ct.mk' (by kernel_rfl) (by kernel_rfl) rfl) <|
 aF.cons (ct.mk' (by kernel_rfl) (by kernel_rfl) rfl) <|
 aF.cons (ct.mk' (by kernel_rfl) (by kernel_rfl) rfl) <|
 aF.cons (ct.mk' (by kernel_rfl) (by kernel_rfl) rfl) <|
 aF.cons (ct.mk' (by kernel_rfl) (by kernel_rfl) rfl) <|
 aF.cons (ct.mk' (by kernel_rfl) (by kernel_rfl) rfl) <|
 aF.cons (ct.mk' (by kernel_rfl) (by kernel_rfl) rfl) <|
 aF.cons (ct.mk' (by kernel_rfl) (by kernel_rfl) rfl) <|
 aF.cons (ct.mk' (by kernel_rfl) (by kernel_rfl) rfl) <|
 aF.cons (ct.mk' (by kernel_rfl) (by kernel_rfl) rfl) <|
 aF.cons (ct.mk' (by kernel_rfl) (by kernel_rfl) rfl) <|
 aF.cons (ct.mk' (by kernel_rfl) (by kernel_rfl) rfl) <|
 aF.cons (ct.mk' (by kernel_rfl) (by kernel_rfl) rfl) <|
 aF.cons (ct.mk' (by kernel_rfl) (by kernel_rfl) rfl) <|
 aF.cons (ct.mk' (by kernel_rfl) (by kernel_rfl) rfl) <|
 aF.cons (ct.mk' (by kernel_rfl) (by kernel_rfl) rfl) <|
 aF.cons (ct.mk' (by kernel_rfl) (by kernel_rfl) rfl) <|
 aF.cons (ct.mk' (by kernel_rfl) (by kernel_rfl) rfl) <|
 aF.cons (ct.mk' (by kernel_rfl) (by kernel_rfl) rfl) <|
 aF.cons (ct.mk' (by kernel_rfl) (by kernel_rfl) rfl) <|
 aF.cons (ct.mk' (by kernel_rfl) (by kernel_rfl) rfl) <|
 aF.cons (ct.mk' (by kernel_rfl) (by kernel_rfl) rfl) <|
 aF.cons (ct.mk' (by kernel_rfl) (by kernel_rfl) rfl) <|
 aF.cons (ct.mk' (by kernel_rfl) (by kernel_rfl) rfl) <|
 aF.cons (ct.mk' (by kernel_rfl) (by kernel_rfl) rfl) <|
 aF.cons (ct.mk' (by kernel_rfl) (by kernel_rfl) rfl) <|
 aF.cons (ct.mk' (by kernel_rfl) (by kernel_rfl) rfl) <| aF.nil
@[simp] theorem tab3:assoc aj 3=some ⟨.int .i64,1,8,[.int .i64 0]⟩:=rfl
@[simp] theorem tab4:assoc aj 4=some ⟨.bool,1,1,[.bool false]⟩:=rfl
@[simp] theorem tab5:assoc aj 5=some ⟨.int .u8,1,1,[.int .u8 0]⟩:=rfl
@[simp] theorem tab6:assoc aj 6=some ⟨.int .u8,1,1,[.int .u8 0]⟩:=rfl
@[simp] theorem tab9:assoc aj 9=some ⟨.str,1,16,[.str ⟨#[]⟩]⟩:=rfl
@[simp] theorem tab22:assoc aj 22=some ⟨.sl 3,1,24,[.ai]⟩:=rfl
@[simp] theorem tab23:assoc aj 23=some ⟨.sl 133,1,24,[.ai]⟩:=rfl
@[simp] theorem tab24:assoc aj 24=some ⟨.sl 95,1,24,[.ai]⟩:=rfl
@[simp] theorem tab25:assoc aj 25=some ⟨.sl 137,1,24,[.ai]⟩:=rfl
@[simp] theorem tab27:assoc aj 27=some ⟨.bX [(0,23),(1,24),(2,25)],3,72,[.ai,.ai,.ai]⟩:=rfl
@[simp] theorem tab28:assoc aj 28=some ⟨.sl 72,1,24,[.ai]⟩:=rfl
@[simp] theorem tab30:assoc aj 30=some ⟨.bX [(0,22),(1,24),(2,28),(3,3)],4,80,[.ai,.ai,.ai,.int .i64 0]⟩:=rfl
@[simp] theorem tab31:assoc aj 31=some ⟨.sl 74,1,24,[.ai]⟩:=rfl
@[simp] theorem tab32:assoc aj 32=some ⟨.sl 22,1,24,[.ai]⟩:=rfl
@[simp] theorem tab34:assoc aj 34=some ⟨.bX [(0,31),(1,32),(2,22)],3,72,[.ai,.ai,.ai]⟩:=rfl
@[simp] theorem tab55:assoc aj 55=some ⟨.int .i64,1,8,[.int .i64 0]⟩:=rfl
@[simp] theorem tab62:assoc aj 62=some ⟨.sl 64,1,24,[.ai]⟩:=rfl
@[simp] theorem tab64:assoc aj 64=some ⟨.bX [(0,3),(1,3),(2,9),(3,62)],4,56,[.int .i64 0,.int .i64 0,.str ⟨#[]⟩,.ai]⟩:=rfl
@[simp] theorem tab66:assoc aj 66=some ⟨.bX [(0,4),(1,3),(2,62)],3,40,[.bool false,.int .i64 0,.ai]⟩:=rfl
@[simp] theorem tab67:assoc aj 67=some ⟨.sl 66,1,24,[.ai]⟩:=rfl
@[simp] theorem tab69:assoc aj 69=some ⟨.bX [(0,3),(1,3),(2,4),(3,64),(7,66),(10,62),(11,67)],12,168,[.int .i64 0,.int .i64 0,.bool false,.int .i64 0,.int .i64 0,.str ⟨#[]⟩,.ai,.bool false,.int .i64 0,.ai,.ai,.ai]⟩:=rfl
@[simp] theorem tab70:assoc aj 70=some ⟨.sl 69,1,24,[.ai]⟩:=rfl
@[simp] theorem tab72:assoc aj 72=some ⟨.bX [(0,9),(1,3),(2,3),(3,3),(4,70)],5,64,[.str ⟨#[]⟩,.int .i64 0,.int .i64 0,.int .i64 0,.ai]⟩:=rfl
@[simp] theorem tab74:assoc aj 74=some ⟨.bX [(0,3),(1,22)],2,32,[.int .i64 0,.ai]⟩:=rfl
@[simp] theorem tab80:assoc aj 80=some ⟨.sl 4,1,24,[.ai]⟩:=rfl
@[simp] theorem tab95:assoc aj 95=some ⟨.bX [(0,9),(1,4),(2,3)],3,32,[.str ⟨#[]⟩,.bool false,.int .i64 0]⟩:=rfl
@[simp] theorem tab106:assoc aj 106=some ⟨.sl 5,1,24,[.ai]⟩:=rfl
@[simp] theorem tab111:assoc aj 111=some ⟨.Ie,1,8,[.any]⟩:=rfl
@[simp] theorem tab113:assoc aj 113=some ⟨.bX [(0,30),(4,34),(7,111),(8,3)],9,168,[.ai,.ai,.ai,.int .i64 0,.ai,.ai,.ai,.any,.int .i64 0]⟩:=rfl
@[simp] theorem tab119:assoc aj 119=some ⟨.arr 6 3,6,48,[.int .i64 0,.int .i64 0,.int .i64 0,.int .i64 0,.int .i64 0,.int .i64 0]⟩:=rfl
@[simp] theorem tab121:assoc aj 121=some ⟨.bX [(0,3),(1,3),(2,119)],8,64,[.int .i64 0,.int .i64 0,.int .i64 0,.int .i64 0,.int .i64 0,.int .i64 0,.int .i64 0,.int .i64 0]⟩:=rfl
@[simp] theorem tab125:assoc aj 125=some ⟨.ptr 127,1,8,[.br]⟩:=rfl
@[simp] theorem tab127:assoc aj 127=some ⟨.bX [(0,22),(1,3)],2,32,[.ai,.int .i64 0]⟩:=rfl
@[simp] theorem tab129:assoc aj 129=some ⟨.bX [(0,125),(1,27),(4,3),(5,4)],6,96,[.br,.ai,.ai,.ai,.int .i64 0,.bool false]⟩:=rfl
@[simp] theorem tab131:assoc aj 131=some ⟨.sl 9,1,24,[.ai]⟩:=rfl
@[simp] theorem tab133:assoc aj 133=some ⟨.bX [(0,9),(1,3)],2,24,[.str ⟨#[]⟩,.int .i64 0]⟩:=rfl
@[simp] theorem tab134:assoc aj 134=some ⟨.sl 139,1,24,[.ai]⟩:=rfl
@[simp] theorem tab135:assoc aj 135=some ⟨.sl 188,1,24,[.ai]⟩:=rfl
@[simp] theorem tab137:assoc aj 137=some ⟨.bX [(0,9),(1,134),(2,135)],3,64,[.str ⟨#[]⟩,.ai,.ai]⟩:=rfl
@[simp] theorem tab139:assoc aj 139=some ⟨.bX [(0,9),(1,4)],2,24,[.str ⟨#[]⟩,.bool false]⟩:=rfl
@[simp] theorem tab142:assoc aj 142=some ⟨.sl 146,1,24,[.ai]⟩:=rfl
@[simp] theorem tab146:assoc aj 146=some ⟨.bX [(0,9),(1,3),(2,3)],3,32,[.str ⟨#[]⟩,.int .i64 0,.int .i64 0]⟩:=rfl
@[simp] theorem tab157:assoc aj 157=some ⟨.sl 172,1,24,[.ai]⟩:=rfl
@[simp] theorem tab162:assoc aj 162=some ⟨.bX [(0,157),(1,3),(2,3),(3,55),(4,3),(5,3)],6,64,[.ai,.int .i64 0,.int .i64 0,.int .i64 0,.int .i64 0,.int .i64 0]⟩:=rfl
@[simp] theorem tab172:assoc aj 172=some ⟨.bX [(0,3),(1,9),(2,3),(3,3)],4,40,[.int .i64 0,.str ⟨#[]⟩,.int .i64 0,.int .i64 0]⟩:=rfl
@[simp] theorem tab183:assoc aj 183=some ⟨.int .u64,1,8,[.int .u64 0]⟩:=rfl
@[simp] theorem tab185:assoc aj 185=some ⟨.bX [(0,9),(1,62)],2,40,[.str ⟨#[]⟩,.ai]⟩:=rfl
@[simp] theorem tab186:assoc aj 186=some ⟨.sl 227,1,24,[.ai]⟩:=rfl
@[simp] theorem tab188:assoc aj 188=some ⟨.bX [(0,3),(1,9),(2,64),(6,185),(8,186),(9,135),(10,135)],11,192,[.int .i64 0,.str ⟨#[]⟩,.int .i64 0,.int .i64 0,.str ⟨#[]⟩,.ai,.str ⟨#[]⟩,.ai,.ai,.ai,.ai]⟩:=rfl
@[simp] theorem tab196:assoc aj 196=some ⟨.bX [(0,27),(3,142),(4,3),(5,3),(6,3),(7,55),(8,70),(9,22)],10,176,[.ai,.ai,.ai,.ai,.int .i64 0,.int .i64 0,.int .i64 0,.int .i64 0,.ai,.ai]⟩:=rfl
@[simp] theorem tab222:assoc aj 222=some ⟨.int .u32,1,4,[.int .u32 0]⟩:=rfl
@[simp] theorem tab224:assoc aj 224=some ⟨.int .u64,1,8,[.int .u64 0]⟩:=rfl
@[simp] theorem tab227:assoc aj 227=some ⟨.bX [(0,4),(1,185),(3,64)],7,104,[.bool false,.str ⟨#[]⟩,.ai,.int .i64 0,.int .i64 0,.str ⟨#[]⟩,.ai]⟩:=rfl
@[simp] theorem tab244:assoc aj 244=some ⟨.int .u64,1,8,[.int .u64 0]⟩:=rfl
theorem follows:Tryz.prog.follows .mixedOrders=true:=by kernel_rfl
theorem db (n:Int)(h : -9223372036854775808≤n)(h':n≤9223372036854775807):IntKind.i64.wrap n=n:=IntWalk.i64_in n ⟨h,h'⟩
end Go.Proofs.YtmnglemlimfpbaaGreat
namespace Go.Can
mutual
theorem aB (n:Nat):∀ c:CV,tree c=true→aG n c=true
 | .bw _ _ _,h=>by simp[tree] at h
 | .aq _ _,h=>by simp[tree] at h
 | .iter _ _ _,h=>by simp[tree] at h
 | .mp _ _,h=>by simp[tree] at h
 | .agg cs,h=>by
  simp only[tree] at h
  simp only[aG]
  exact cC n cs h
 | .fn _ cs,h=>by
  simp only[tree] at h
  simp only[aG]
  exact cC n cs h
 | .iface _ cs,h=>by
  simp only[tree] at h
  simp only[aG]
  exact cC n cs h
 | .df cs,h=>by
  simp only[tree] at h
  simp only[aG]
  exact cC n cs h
 | .int _ _,_=>rfl
 | .bool _,_=>rfl
 | .str _,_=>rfl
 | .ax _ _,_=>rfl
 | .ai,_=>rfl
 | .cq _,_=>rfl
 | .br,_=>rfl
 | .b9,_=>rfl
 | .any,_=>rfl
theorem cC (n:Nat):∀ cs:List CV,trees cs=true→aC n cs=true
 | [],_=>rfl
 | c::cs,h=>by
  simp only[trees,Bool.and_eq_true] at h
  simp only[aC,Bool.and_eq_true]
  exact⟨aB n c h.1,cC n cs h.2⟩
end
mutual
theorem kV (n:Nat):∀ c:CV,tree c=true→aL n c=true
 | .bw _ _ _,h=>by simp[tree] at h
 | .aq _ _,h=>by simp[tree] at h
 | .iter _ _ _,h=>by simp[tree] at h
 | .mp _ _,h=>by simp[tree] at h
 | .agg cs,h=>by
  simp only[tree] at h
  simp only[aL]
  exact ir n cs h
 | .fn _ cs,h=>by
  simp only[tree] at h
  simp only[aL]
  exact ir n cs h
 | .iface _ cs,h=>by
  simp only[tree] at h
  simp only[aL]
  exact ir n cs h
 | .df cs,h=>by
  simp only[tree] at h
  simp only[aL]
  exact ir n cs h
 | .int _ _,_=>rfl
 | .bool _,_=>rfl
 | .str _,_=>rfl
 | .ax _ _,_=>rfl
 | .ai,_=>rfl
 | .cq _,_=>rfl
 | .br,_=>rfl
 | .b9,_=>rfl
 | .any,_=>rfl
theorem ir (n:Nat):∀ cs:List CV,trees cs=true→dw n cs=true
 | [],_=>rfl
 | c::cs,h=>by
  simp only[trees,Bool.and_eq_true] at h
  simp only[dw,Bool.and_eq_true]
  exact⟨kV n c h.1,ir n cs h.2⟩
end
def cH (o q:Nat):CV→CV
 | .bw p off n=>.bw (if p=o then q else p) off n
 | .aq p off=>.aq (if p=o then q else p) off
 | c=>c
def lL (o q:Nat):CV→Bool
 | .bw p _ _=>p != q
 | .aq p _=>p != q
 | c=>aL o c && aL q c
def jF (o q:Nat):CV→CV
 | .agg cs=>.agg (cs.map (cH o q))
 | c=>cH o q c
def wZ (o q:Nat):CV→Bool
 | .agg cs=>cs.all (lL o q)
 | c=>lL o q c
def uK (o q:Nat):List (Nat×CV)→List (Nat×CV)
 | []=>[]
 | (t,c)::r=>(t,jF o q c)::uK o q r
def vG (o q:Nat):List (Nat×Ob)→List (Nat×Ob)
 | []=>[]
 | (k,ob)::r=>(if k=o then q else k,⟨ob.elem,ob.sz,ob.cells.map (cH o q)⟩)::vG o q r
def okH (o q:Nat):List (Nat×Ob)→Bool
 | []=>true
 | (_,ob)::r=>ob.cells.all (lL o q) && okH o q r
section
variable {P:Program}{C:Cx}{σ:Nat→Option OB}{s:St}{a:Act}{w:World}
theorem DI (o q:Nat)(c:CV):one (cH o q c)=one c:=by cases c<;>rfl
theorem pz (o q:Nat)(cs:List CV):(cs.map (cH o q)).all one=cs.all one:=by
 induction cs with
 | nil=>rfl
 | cons c cs ih=>simp only[List.map_cons,List.all_cons,DI,ih]
theorem VR.cH {F F':Nat→Prop}{σ':Nat→Option OB}{o q:Nat}(hk:bO w w F F')(hq:σ' q=σ o)(hne:∀ p,p≠q→σ' p=σ p){c:CV}{v:Value}(hok:lL o q c=true)(h:VR w F σ c v):VR w F' σ' (cH o q c) v:=by
 have gen:aL q c=true→VR w F' σ' c v:=fun hn=>VR.keep hk _ _ (fun p hp=>hne p fun e=>by subst e;rw[hn] at hp;cases hp) h
 cases c with
 | bw p off n=>
  simp only[lL,bne_iff_ne,ne_eq] at hok
  simp only[Can.cH]
  split
  ·rename_i e
   subst e
   simp only[VR] at h ⊢
   obtain⟨B,h1,h2⟩:=h
   exact⟨B,by rw[hq];exact h1,h2⟩
  ·exact gen (by simpa [aL] using hok)
 | aq p off=>
  simp only[lL,bne_iff_ne,ne_eq] at hok
  simp only[Can.cH]
  split
  ·rename_i e
   subst e
   simp only[VR] at h ⊢
   obtain⟨B,b,h1,h2⟩:=h
   exact⟨B,b,by rw[hq];exact h1,h2⟩
  ·exact gen (by simpa [aL] using hok)
 | _=>
  simp only[lL,Bool.and_eq_true] at hok
  exact gen hok.2
theorem aQ.cH {F F':Nat→Prop}{σ':Nat→Option OB}{o q:Nat}(hk:bO w w F F')(hq:σ' q=σ o)(hne:∀ p,p≠q→σ' p=σ p):∀ {cs:List CV} {vs:List Value},cs.all (lL o q)=true→aQ w F σ cs vs→aQ w F' σ' (cs.map (Can.cH o q)) vs
 | [],_,_,h=>h
 | c::cs,_,hok,⟨v,r,e,h1,h2⟩=>by
  simp only[List.all_cons,Bool.and_eq_true] at hok
  exact⟨v,r,e,VR.cH hk hq hne hok.1 h1,aQ.cH hk hq hne hok.2 h2⟩
theorem VR.jF {F F':Nat→Prop}{σ':Nat→Option OB}{o q:Nat}(hk:bO w w F F')(hq:σ' q=σ o)(hne:∀ p,p≠q→σ' p=σ p){c:CV}{v:Value}(hok:wZ o q c=true)(h:VR w F σ c v):VR w F' σ' (jF o q c) v:=by
 cases c with
 | agg cs=>
  simp only[VR] at h
  obtain⟨vs,h1,h2,h3⟩:=h
  simp only[Can.jF,VR]
  exact⟨vs,h1,aQ.cH hk hq hne hok h2,by rw[pz];exact h3⟩
 | _=>
  simp only[wZ] at hok
  simp only[Can.jF]
  exact VR.cH hk hq hne hok h
theorem qn (o q:Nat):∀ (e:List (Nat×CV)) (t:Nat) (c:CV),assoc (uK o q e) t=some c→∃ d,assoc e t=some d∧c=Can.jF o q d
 | [],_,_,h=>by simp[uK,assoc] at h
 | (k,d)::r,t,c,h=>by
  simp only[uK,assoc] at h ⊢
  split at h
  ·rename_i e
   rw[if_pos e]
   cases h
   exact⟨d,rfl,rfl⟩
  ·rename_i e
   rw[if_neg e]
   exact qn o q r t c h
theorem jo (o q:Nat):∀ (H:List (Nat×Ob)) (p:Nat) (ob:Ob),assoc H q=none→assoc (vG o q H) p=some ob→∃ p' ob',assoc H p'=some ob'∧p=(if p'=o then q else p')∧ob=⟨ob'.elem,ob'.sz,ob'.cells.map (Can.cH o q)⟩
 | [],_,_,_,h=>by simp[vG,assoc] at h
 | (k,x)::r,p,ob,hq,h=>by
  by_cases hkq:k=q
  ·simp[assoc,hkq] at hq
  ·simp only[assoc,if_neg hkq] at hq
   by_cases e:(if k=o then q else k)=p
   ·simp only[vG,assoc,if_pos e,Option.some.injEq] at h
    exact⟨k,x,by simp[assoc],e.symm,h.symm⟩
   ·simp only[vG,assoc,if_neg e] at h
    obtain⟨p',ob',h1,h2,h3⟩:=jo o q r p ob hq h
    refine⟨p',ob',?_,h2,h3⟩
    simp only[assoc]
    rw[if_neg fun e'=>e (by rw[h2,e'])]
    exact h1
theorem DM (o q:Nat):∀ {H:List (Nat×Ob)},okH o q H=true→∀ p ob,assoc H p=some ob→ob.cells.all (lL o q)=true
 | [],_,p,ob,h=>by simp[assoc] at h
 | (k,x)::r,h,p,ob,hp=>by
  simp only[okH,Bool.and_eq_true] at h
  simp only[assoc] at hp
  split at hp
  ·cases hp;exact h.1
  ·exact DM o q h.2 p ob hp
theorem Le.na (o q:Nat){ob:Ob}(ho:assoc s.heap o=Option.some ob)(hq:assoc s.heap q=Option.none)(hn:C.n0≤q)(hx:q<s.nx)(he:(s.env.all fun x=>wZ o q x.2)=true)(hH:okH o q s.heap=true):Le C s ⟨uK o q s.env,vG o q s.heap,s.nx⟩:=by
 intro a w ⟨σ,h⟩
 rw[List.all_eq_true] at he
 obtain⟨σ',hσ⟩:∃ σ':Nat→Option OB,∀ x,σ' x=if x=q then σ o else σ x:=⟨_,fun _=>rfl⟩
 have s1:σ' q=σ o:=by rw[hσ,if_pos rfl]
 have s2:∀ p,p≠q→σ' p=σ p:=fun p hp=>by rw[hσ,if_neg hp]
 have s3:∀ p,p≠q→σ' (if p=o then q else p)=σ p:=fun p hp=>by
  split
  ·rename_i e;rw[s1,e]
  ·exact s2 p hp
 have hdom:∀ p x,assoc s.heap p=some x→p≠q:=fun p x hp e=>by rw[e,hq] at hp;cases hp
 have hF:∀ b,FB C σ' (vG o q s.heap) b→FB C σ s.heap b:=by
  rintro b (hb | ⟨p,x,hp,hb⟩)
  ·exact .inl hb
  ·obtain⟨p',y,h1,h2,h3⟩:=jo o q s.heap p x hq hp
   refine .inr ⟨p',y,h1,?_⟩
   unfold aJ at hb ⊢
   rwa [h2,s3 p' (hdom p' y h1)] at hb
 have hk:bO w w (FB C σ s.heap) (FB C σ' (vG o q s.heap)):=bO.same hF
 refine⟨σ',h.kO,h.tm,h.os,h.tape,h.output,h.size,h.frame,?_,?_,?_,?_,?_,h.low,?_⟩
 ·intro t c hc
  obtain⟨d,hd,rfl⟩:=qn o q s.env t c hc
  obtain⟨v,k1,k2⟩:=h.env t d hd
  exact⟨v,k1,VR.jF hk s1 s2 (he _ (a7 _ _ _ hd)) k2⟩
 ·intro p x hp
  obtain⟨p',y,h1,h2,h3⟩:=jo o q s.heap p x hq hp
  obtain⟨B,m1,m2,m3,m4,m5⟩:=h.obj p' y h1
  subst h3
  refine⟨B,by rw[h2,s3 p' (hdom p' y h1)];exact m1,m2,fun hb=>by simp[m3 hb],by simp only[pz];exact m4,fun b hb=>?_⟩
  obtain⟨cur,n1,n2,n3,n4,n5,n6⟩:=m5 b hb
  refine⟨cur,n1,n2,n3,n4,by simpa using n5,?_⟩
  simp only[List.length_map]
  exact aQ.cH hk s1 s2 (DM o q hH p' y h1) n6
 ·intro p p1 x x1 b hp hp1 hb hb1
  obtain⟨p',y,h1,h2,h3⟩:=jo o q s.heap p x hq hp
  obtain⟨p1',y1,g1,g2,g3⟩:=jo o q s.heap p1 x1 hq hp1
  unfold aJ at hb hb1
  rw[h2,s3 p' (hdom p' y h1)] at hb
  rw[g2,s3 p1' (hdom p1' y1 g1)] at hb1
  have:=h.inj p' p1' y y1 b h1 g1 hb hb1
  rw[h2,g2,this]
 ·intro p hp
  simp only at hp
  rw[s2 p (by omega)]
  exact h.nx p hp
 ·intro p hp
  rw[s2 p (by omega)]
  exact h.ek p hp
 ·intro p B b hp hB hb
  by_cases e:p=q
  ·subst e
   rw[s1] at hB
   obtain⟨B',m1,_,_,_,m5⟩:=h.obj o ob ho
   rw[m1] at hB
   cases hB
   obtain⟨cur,_,_,_,n4,_⟩:=m5 b hb
   exact n4
  ·rw[s2 p e] at hB
   exact h.new p B b hp hB hb
@[simp] theorem ren1_int (o q:Nat)(k:IntKind)(n:Int):cH o q (.int k n)=(.int k n):=rfl
@[simp] theorem ok1_int (o q:Nat)(k:IntKind)(n:Int):lL o q (.int k n)=(aL o (.int k n) && aL q (.int k n)):=rfl
@[simp] theorem renC_int (o q:Nat)(k:IntKind)(n:Int):jF o q (.int k n)=(.int k n):=rfl
@[simp] theorem okC_int (o q:Nat)(k:IntKind)(n:Int):wZ o q (.int k n)=(aL o (.int k n) && aL q (.int k n)):=rfl
@[simp] theorem Js (o q:Nat)(b:Bool):cH o q (.bool b)=(.bool b):=rfl
@[simp] theorem ok1_bool (o q:Nat)(b:Bool):lL o q (.bool b)=(aL o (.bool b) && aL q (.bool b)):=rfl
@[simp] theorem Jp (o q:Nat)(b:Bool):jF o q (.bool b)=(.bool b):=rfl
@[simp] theorem okC_bool (o q:Nat)(b:Bool):wZ o q (.bool b)=(aL o (.bool b) && aL q (.bool b)):=rfl
@[simp] theorem ren1_str (o q:Nat)(s:ByteArray):cH o q (.str s)=(.str s):=rfl
@[simp] theorem ok1_str (o q:Nat)(s:ByteArray):lL o q (.str s)=(aL o (.str s) && aL q (.str s)):=rfl
@[simp] theorem renC_str (o q:Nat)(s:ByteArray):jF o q (.str s)=(.str s):=rfl
@[simp] theorem okC_str (o q:Nat)(s:ByteArray):wZ o q (.str s)=(aL o (.str s) && aL q (.str s)):=rfl
@[simp] theorem ren1_agg (o q:Nat)(cs:List CV):cH o q (.agg cs)=(.agg cs):=rfl
@[simp] theorem ok1_agg (o q:Nat)(cs:List CV):lL o q (.agg cs)=(aL o (.agg cs) && aL q (.agg cs)):=rfl
@[simp] theorem renC_agg (o q:Nat)(cs:List CV):jF o q (.agg cs)=.agg (cs.map (cH o q)):=rfl
@[simp] theorem okC_agg (o q:Nat)(cs:List CV):wZ o q (.agg cs)=cs.all (lL o q):=rfl
@[simp] theorem ren1_tsl (o q:Nat)(cs:List CV)(n:Nat):cH o q (.ax cs n)=(.ax cs n):=rfl
@[simp] theorem ok1_tsl (o q:Nat)(cs:List CV)(n:Nat):lL o q (.ax cs n)=(aL o (.ax cs n) && aL q (.ax cs n)):=rfl
@[simp] theorem renC_tsl (o q:Nat)(cs:List CV)(n:Nat):jF o q (.ax cs n)=(.ax cs n):=rfl
@[simp] theorem okC_tsl (o q:Nat)(cs:List CV)(n:Nat):wZ o q (.ax cs n)=(aL o (.ax cs n) && aL q (.ax cs n)):=rfl
@[simp] theorem H0 (o q:Nat)  : cH o q .ai=.ai:=rfl
@[simp] theorem Jx (o q:Nat)  : lL o q .ai=(aL o .ai && aL q .ai):=rfl
@[simp] theorem HX (o q:Nat)  : jF o q .ai=.ai:=rfl
@[simp] theorem Ju (o q:Nat)  : wZ o q .ai=(aL o .ai && aL q .ai):=rfl
@[simp] theorem Jq (o q:Nat)(cs:List CV):cH o q (.cq cs)=(.cq cs):=rfl
@[simp] theorem ok1_tptr (o q:Nat)(cs:List CV):lL o q (.cq cs)=(aL o (.cq cs) && aL q (.cq cs)):=rfl
@[simp] theorem Jn (o q:Nat)(cs:List CV):jF o q (.cq cs)=(.cq cs):=rfl
@[simp] theorem okC_tptr (o q:Nat)(cs:List CV):wZ o q (.cq cs)=(aL o (.cq cs) && aL q (.cq cs)):=rfl
@[simp] theorem G3 (o q:Nat)  : cH o q .br=.br:=rfl
@[simp] theorem Il (o q:Nat)  : lL o q .br=(aL o .br && aL q .br):=rfl
@[simp] theorem G2 (o q:Nat)  : jF o q .br=.br:=rfl
@[simp] theorem Ik (o q:Nat)  : wZ o q .br=(aL o .br && aL q .br):=rfl
@[simp] theorem ren1_fn (o q:Nat)(f:FuncId)(cs:List CV):cH o q (.fn f cs)=(.fn f cs):=rfl
@[simp] theorem ok1_fn (o q:Nat)(f:FuncId)(cs:List CV):lL o q (.fn f cs)=(aL o (.fn f cs) && aL q (.fn f cs)):=rfl
@[simp] theorem renC_fn (o q:Nat)(f:FuncId)(cs:List CV):jF o q (.fn f cs)=(.fn f cs):=rfl
@[simp] theorem okC_fn (o q:Nat)(f:FuncId)(cs:List CV):wZ o q (.fn f cs)=(aL o (.fn f cs) && aL q (.fn f cs)):=rfl
@[simp] theorem H3 (o q:Nat)  : cH o q .b9=.b9:=rfl
@[simp] theorem Jy (o q:Nat)  : lL o q .b9=(aL o .b9 && aL q .b9):=rfl
@[simp] theorem HY (o q:Nat)  : jF o q .b9=.b9:=rfl
@[simp] theorem Jv (o q:Nat)  : wZ o q .b9=(aL o .b9 && aL q .b9):=rfl
@[simp] theorem H4 (o q:Nat)(t:TypeId)(cs:List CV):cH o q (.iface t cs)=(.iface t cs):=rfl
@[simp] theorem Jz (o q:Nat)(t:TypeId)(cs:List CV):lL o q (.iface t cs)=(aL o (.iface t cs) && aL q (.iface t cs)):=rfl
@[simp] theorem HZ (o q:Nat)(t:TypeId)(cs:List CV):jF o q (.iface t cs)=(.iface t cs):=rfl
@[simp] theorem Jw (o q:Nat)(t:TypeId)(cs:List CV):wZ o q (.iface t cs)=(aL o (.iface t cs) && aL q (.iface t cs)):=rfl
@[simp] theorem ren1_tup (o q:Nat)(cs:List CV):cH o q (.df cs)=(.df cs):=rfl
@[simp] theorem ok1_tup (o q:Nat)(cs:List CV):lL o q (.df cs)=(aL o (.df cs) && aL q (.df cs)):=rfl
@[simp] theorem renC_tup (o q:Nat)(cs:List CV):jF o q (.df cs)=(.df cs):=rfl
@[simp] theorem okC_tup (o q:Nat)(cs:List CV):wZ o q (.df cs)=(aL o (.df cs) && aL q (.df cs)):=rfl
@[simp] theorem ren1_osl (o q:Nat)(p f n:Nat):cH o q (.bw p f n)=.bw (if p=o then q else p) f n:=rfl
@[simp] theorem ok1_osl (o q:Nat)(p f n:Nat):lL o q (.bw p f n)=(p != q):=rfl
@[simp] theorem renC_osl (o q:Nat)(p f n:Nat):jF o q (.bw p f n)=.bw (if p=o then q else p) f n:=rfl
@[simp] theorem okC_osl (o q:Nat)(p f n:Nat):wZ o q (.bw p f n)=(p != q):=rfl
@[simp] theorem Jr (o q:Nat)(p f:Nat):cH o q (.aq p f)=.aq (if p=o then q else p) f:=rfl
@[simp] theorem ok1_optr (o q:Nat)(p f:Nat):lL o q (.aq p f)=(p != q):=rfl
@[simp] theorem Jo (o q:Nat)(p f:Nat):jF o q (.aq p f)=.aq (if p=o then q else p) f:=rfl
@[simp] theorem okC_optr (o q:Nat)(p f:Nat):wZ o q (.aq p f)=(p != q):=rfl
@[simp] theorem ren1_any (o q:Nat)  : cH o q .any=.any:=rfl
@[simp] theorem ok1_any (o q:Nat)  : lL o q .any=(aL o .any && aL q .any):=rfl
@[simp] theorem renC_any (o q:Nat)  : jF o q .any=.any:=rfl
@[simp] theorem okC_any (o q:Nat)  : wZ o q .any=(aL o .any && aL q .any):=rfl
attribute [simp] uK vG okH
end
theorem bG {α:Type}{f:α→List CV}{n:Nat}(hf:∀ x,(f x).length=n){m:List α}{i:Nat}{e:α}(h:m[i]? = some e)(k:Nat)(hk:k≤n):(m.flatMap f).drop (i*n+k)=(f e).drop k++(m.drop (i+1)).flatMap f:=by
 rw[← List.drop_drop,aV hf h,List.drop_append_of_le_length (by rw[hf];exact hk)]
theorem oP (o q:Nat)(c:CV)(h:tree c=true):lL o q c=true:=by
 cases c<;>first | (simp[tree] at h;done) | (simp only[lL,Bool.and_eq_true];exact⟨kV _ _ h,kV _ _ h⟩)
theorem BM (o q:Nat)(c:CV)(h:tree c=true):cH o q c=c:=by
 cases c<;>first | (simp[tree] at h;done) | rfl
theorem fX {cs:List CV}(h:trees cs=true):∀ c∈cs,tree c=true:=by
 induction cs with
 | nil=>simp
 | cons c cs ih=>
  simp only[trees,Bool.and_eq_true] at h
  intro x hx
  rcases List.mem_cons.1 hx with rfl | hx
  ·exact h.1
  ·exact ih h.2 x hx
theorem af {cs:List CV}(h:trees cs=true)(n:Nat):cs.all (aG n)=true:=List.all_eq_true.2 fun c hc=>aB n c (fX h c hc)
theorem a6 {cs:List CV}(h:trees cs=true)(o q:Nat):cs.all (lL o q)=true:=List.all_eq_true.2 fun c hc=>oP o q c (fX h c hc)
theorem aY {cs:List CV}(h:trees cs=true)(o q:Nat):cs.map (cH o q)=cs:=by
 have:∀ c∈cs,cH o q c=id c:=fun c hc=>BM o q c (fX h c hc)
 rw[List.map_congr_left this,List.map_id]
end Go.Can
