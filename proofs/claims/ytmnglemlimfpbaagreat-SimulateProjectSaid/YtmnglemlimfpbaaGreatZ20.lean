/- The types of this program that the walks ask for. -/
import Derived.Test.YtmnglemlimfpbaaGreatZ19
import Derived.Test.YtmnglemlimfpbaaGreatProg
import Derived.KernelRfl
namespace Go.Proofs.YtmnglemlimfpbaaGreat
open Go.Can
def aq:List (Nat×TI):=[
 (3,⟨.int .i64,1,8,[.int .i64 0]⟩),
 (4,⟨.bool,1,1,[.bool false]⟩),
 (5,⟨.int .u8,1,1,[.int .u8 0]⟩),
 (6,⟨.int .u8,1,1,[.int .u8 0]⟩),
 (9,⟨.str,1,16,[.str ⟨#[]⟩]⟩),
 (22,⟨.sl 3,1,24,[.ah]⟩),
 (23,⟨.sl 133,1,24,[.ah]⟩),
 (24,⟨.sl 95,1,24,[.ah]⟩),
 (25,⟨.sl 137,1,24,[.ah]⟩),
 (27,⟨.bK [(0,23),(1,24),(2,25)],3,72,[.ah,.ah,.ah]⟩),
 (28,⟨.sl 72,1,24,[.ah]⟩),
 (30,⟨.bK [(0,22),(1,24),(2,28),(3,3)],4,80,[.ah,.ah,.ah,.int .i64 0]⟩),
 (31,⟨.sl 74,1,24,[.ah]⟩),
 (32,⟨.sl 22,1,24,[.ah]⟩),
 (34,⟨.bK [(0,31),(1,32),(2,22)],3,72,[.ah,.ah,.ah]⟩),
 (37,⟨.sl 156,1,24,[.ah]⟩),
 (38,⟨.sl 98,1,24,[.ah]⟩),
 (40,⟨.bK [(0,22),(1,37),(2,38),(3,3)],4,80,[.ah,.ah,.ah,.int .i64 0]⟩),
 (44,⟨.sl 103,1,24,[.ah]⟩),
 (46,⟨.bK [(0,3),(1,44)],2,32,[.int .i64 0,.ah]⟩),
 (55,⟨.int .i64,1,8,[.int .i64 0]⟩),
 (62,⟨.sl 64,1,24,[.ah]⟩),
 (64,⟨.bK [(0,3),(1,3),(2,9),(3,62)],4,56,[.int .i64 0,.int .i64 0,.str ⟨#[]⟩,.ah]⟩),
 (66,⟨.bK [(0,4),(1,3),(2,62)],3,40,[.bool false,.int .i64 0,.ah]⟩),
 (67,⟨.sl 66,1,24,[.ah]⟩),
 (69,⟨.bK [(0,3),(1,3),(2,4),(3,64),(7,66),(10,62),(11,67)],12,168,[.int .i64 0,.int .i64 0,.bool false,.int .i64 0,.int .i64 0,.str ⟨#[]⟩,.ah,.bool false,.int .i64 0,.ah,.ah,.ah]⟩),
 (70,⟨.sl 69,1,24,[.ah]⟩),
 (72,⟨.bK [(0,9),(1,3),(2,3),(3,3),(4,70)],5,64,[.str ⟨#[]⟩,.int .i64 0,.int .i64 0,.int .i64 0,.ah]⟩),
 (74,⟨.bK [(0,3),(1,22)],2,32,[.int .i64 0,.ah]⟩),
 (95,⟨.bK [(0,9),(1,4),(2,3)],3,32,[.str ⟨#[]⟩,.bool false,.int .i64 0]⟩),
 (96,⟨.sl 100,1,24,[.ah]⟩),
 (98,⟨.bK [(0,96)],1,24,[.ah]⟩),
 (100,⟨.bK [(0,3),(1,3),(2,22),(3,22)],4,64,[.int .i64 0,.int .i64 0,.ah,.ah]⟩),
 (103,⟨.bK [(0,3),(1,3)],2,16,[.int .i64 0,.int .i64 0]⟩),
 (106,⟨.sl 5,1,24,[.ah]⟩),
 (119,⟨.arr 6 3,6,48,[.int .i64 0,.int .i64 0,.int .i64 0,.int .i64 0,.int .i64 0,.int .i64 0]⟩),
 (121,⟨.bK [(0,3),(1,3),(2,119)],8,64,[.int .i64 0,.int .i64 0,.int .i64 0,.int .i64 0,.int .i64 0,.int .i64 0,.int .i64 0,.int .i64 0]⟩),
 (125,⟨.ptr 127,1,8,[.bm]⟩),
 (127,⟨.bK [(0,22),(1,3)],2,32,[.ah,.int .i64 0]⟩),
 (129,⟨.bK [(0,125),(1,27),(4,3),(5,4)],6,96,[.bm,.ah,.ah,.ah,.int .i64 0,.bool false]⟩),
 (131,⟨.sl 9,1,24,[.ah]⟩),
 (133,⟨.bK [(0,9),(1,3)],2,24,[.str ⟨#[]⟩,.int .i64 0]⟩),
 (134,⟨.sl 139,1,24,[.ah]⟩),
 (135,⟨.sl 188,1,24,[.ah]⟩),
 (137,⟨.bK [(0,9),(1,134),(2,135)],3,64,[.str ⟨#[]⟩,.ah,.ah]⟩),
 (139,⟨.bK [(0,9),(1,4)],2,24,[.str ⟨#[]⟩,.bool false]⟩),
 (142,⟨.sl 146,1,24,[.ah]⟩),
 (146,⟨.bK [(0,9),(1,3),(2,3)],3,32,[.str ⟨#[]⟩,.int .i64 0,.int .i64 0]⟩),
 (156,⟨.bK [(0,3),(1,3)],2,16,[.int .i64 0,.int .i64 0]⟩),
 (157,⟨.sl 172,1,24,[.ah]⟩),
 (162,⟨.bK [(0,157),(1,3),(2,3),(3,55),(4,3),(5,3)],6,64,[.ah,.int .i64 0,.int .i64 0,.int .i64 0,.int .i64 0,.int .i64 0]⟩),
 (172,⟨.bK [(0,3),(1,9),(2,3),(3,3)],4,40,[.int .i64 0,.str ⟨#[]⟩,.int .i64 0,.int .i64 0]⟩),
 (185,⟨.bK [(0,9),(1,62)],2,40,[.str ⟨#[]⟩,.ah]⟩),
 (186,⟨.sl 227,1,24,[.ah]⟩),
 (188,⟨.bK [(0,3),(1,9),(2,64),(6,185),(8,186),(9,135),(10,135)],11,192,[.int .i64 0,.str ⟨#[]⟩,.int .i64 0,.int .i64 0,.str ⟨#[]⟩,.ah,.str ⟨#[]⟩,.ah,.ah,.ah,.ah]⟩),
 (196,⟨.bK [(0,27),(3,142),(4,3),(5,3),(6,3),(7,55),(8,70),(9,22)],10,176,[.ah,.ah,.ah,.ah,.int .i64 0,.int .i64 0,.int .i64 0,.int .i64 0,.ah,.ah]⟩),
 (224,⟨.int .u64,1,8,[.int .u64 0]⟩),
 (227,⟨.bK [(0,4),(1,185),(3,64)],7,104,[.bool false,.str ⟨#[]⟩,.ah,.int .i64 0,.int .i64 0,.str ⟨#[]⟩,.ah]⟩),
 (173,⟨.ptr 100,1,8,[.bm]⟩)]
theorem ag:ay Tryz.prog aq:=
 ay.cons (cD.mk' yAb yAb rfl) <|
 ay.cons (cD.mk' yAb yAb rfl) <|
 ay.cons (cD.mk' yAb yAb rfl) <|
 ay.cons (cD.mk' yAb yAb rfl) <|
 ay.cons (cD.mk' yAb yAb rfl) <|
 ay.cons (cD.mk' yAb yAb rfl) <|
 ay.cons (cD.mk' yAb yAb rfl) <|
 ay.cons (cD.mk' yAb yAb rfl) <|
 ay.cons (cD.mk' yAb yAb rfl) <|
 ay.cons (cD.mk' yAb yAb rfl) <|
 ay.cons (cD.mk' yAb yAb rfl) <|
 ay.cons (cD.mk' yAb yAb rfl) <|
 ay.cons (cD.mk' yAb yAb rfl) <|
 ay.cons (cD.mk' yAb yAb rfl) <|
 ay.cons (cD.mk' yAb yAb rfl) <|
 ay.cons (cD.mk' yAb yAb rfl) <|
 ay.cons (cD.mk' yAb yAb rfl) <|
 ay.cons (cD.mk' yAb yAb rfl) <|
 ay.cons (cD.mk' yAb yAb rfl) <|
 ay.cons (cD.mk' yAb yAb rfl) <|
 ay.cons (cD.mk' yAb yAb rfl) <|
 ay.cons (cD.mk' yAb yAb rfl) <|
 ay.cons (cD.mk' yAb yAb rfl) <|
 ay.cons (cD.mk' yAb yAb rfl) <|
 ay.cons (cD.mk' yAb yAb rfl) <|
 ay.cons (cD.mk' yAb yAb rfl) <|
 ay.cons (cD.mk' yAb yAb rfl) <|
 ay.cons (cD.mk' yAb yAb rfl) <|
 ay.cons (cD.mk' yAb yAb rfl) <|
 ay.cons (cD.mk' yAb yAb rfl) <|
 ay.cons (cD.mk' yAb yAb rfl) <|
 ay.cons (cD.mk' yAb yAb rfl) <|
 ay.cons (cD.mk' yAb yAb rfl) <|
 ay.cons (cD.mk' yAb yAb rfl) <|
 ay.cons (cD.mk' yAb yAb rfl) <|
 ay.cons (cD.mk' yAb yAb rfl) <|
 ay.cons (cD.mk' yAb yAb rfl) <|
 ay.cons (cD.mk' yAb yAb rfl) <|
 ay.cons (cD.mk' yAb yAb rfl) <|
 ay.cons (cD.mk' yAb yAb rfl) <|
 ay.cons (cD.mk' yAb yAb rfl) <|
 ay.cons (cD.mk' yAb yAb rfl) <|
 ay.cons (cD.mk' yAb yAb rfl) <|
 ay.cons (cD.mk' yAb yAb rfl) <|
 ay.cons (cD.mk' yAb yAb rfl) <|
 ay.cons (cD.mk' yAb yAb rfl) <|
 ay.cons (cD.mk' yAb yAb rfl) <|
 ay.cons (cD.mk' yAb yAb rfl) <|
 ay.cons (cD.mk' yAb yAb rfl) <|
 ay.cons (cD.mk' yAb yAb rfl) <|
 ay.cons (cD.mk' yAb yAb rfl) <|
 ay.cons (cD.mk' yAb yAb rfl) <|
 ay.cons (cD.mk' yAb yAb rfl) <|
 ay.cons (cD.mk' yAb yAb rfl) <|
 ay.cons (cD.mk' yAb yAb rfl) <|
 ay.cons (cD.mk' yAb yAb rfl) <|
 ay.cons (cD.mk' yAb yAb rfl) <|
 ay.cons (cD.mk' yAb yAb rfl) <| ay.cons (cD.mk' yAb yAb rfl) <|
 ay.nil
@[simp] theorem tab3:assoc aq 3=some ⟨.int .i64,1,8,[.int .i64 0]⟩:=rfl
@[simp] theorem tab4:assoc aq 4=some ⟨.bool,1,1,[.bool false]⟩:=rfl
@[simp] theorem tab5:assoc aq 5=some ⟨.int .u8,1,1,[.int .u8 0]⟩:=rfl
@[simp] theorem tab6:assoc aq 6=some ⟨.int .u8,1,1,[.int .u8 0]⟩:=rfl
@[simp] theorem tab9:assoc aq 9=some ⟨.str,1,16,[.str ⟨#[]⟩]⟩:=rfl
@[simp] theorem tab22:assoc aq 22=some ⟨.sl 3,1,24,[.ah]⟩:=rfl
@[simp] theorem tab23:assoc aq 23=some ⟨.sl 133,1,24,[.ah]⟩:=rfl
@[simp] theorem tab24:assoc aq 24=some ⟨.sl 95,1,24,[.ah]⟩:=rfl
@[simp] theorem tab25:assoc aq 25=some ⟨.sl 137,1,24,[.ah]⟩:=rfl
@[simp] theorem tab27:assoc aq 27=some ⟨.bK [(0,23),(1,24),(2,25)],3,72,[.ah,.ah,.ah]⟩:=rfl
@[simp] theorem tab28:assoc aq 28=some ⟨.sl 72,1,24,[.ah]⟩:=rfl
@[simp] theorem tab30:assoc aq 30=some ⟨.bK [(0,22),(1,24),(2,28),(3,3)],4,80,[.ah,.ah,.ah,.int .i64 0]⟩:=rfl
@[simp] theorem tab31:assoc aq 31=some ⟨.sl 74,1,24,[.ah]⟩:=rfl
@[simp] theorem tab32:assoc aq 32=some ⟨.sl 22,1,24,[.ah]⟩:=rfl
@[simp] theorem tab34:assoc aq 34=some ⟨.bK [(0,31),(1,32),(2,22)],3,72,[.ah,.ah,.ah]⟩:=rfl
@[simp] theorem tab37:assoc aq 37=some ⟨.sl 156,1,24,[.ah]⟩:=rfl
@[simp] theorem tab38:assoc aq 38=some ⟨.sl 98,1,24,[.ah]⟩:=rfl
@[simp] theorem tab40:assoc aq 40=some ⟨.bK [(0,22),(1,37),(2,38),(3,3)],4,80,[.ah,.ah,.ah,.int .i64 0]⟩:=rfl
@[simp] theorem tab44:assoc aq 44=some ⟨.sl 103,1,24,[.ah]⟩:=rfl
@[simp] theorem tab46:assoc aq 46=some ⟨.bK [(0,3),(1,44)],2,32,[.int .i64 0,.ah]⟩:=rfl
@[simp] theorem tab55:assoc aq 55=some ⟨.int .i64,1,8,[.int .i64 0]⟩:=rfl
@[simp] theorem tab62:assoc aq 62=some ⟨.sl 64,1,24,[.ah]⟩:=rfl
@[simp] theorem tab64:assoc aq 64=some ⟨.bK [(0,3),(1,3),(2,9),(3,62)],4,56,[.int .i64 0,.int .i64 0,.str ⟨#[]⟩,.ah]⟩:=rfl
@[simp] theorem tab66:assoc aq 66=some ⟨.bK [(0,4),(1,3),(2,62)],3,40,[.bool false,.int .i64 0,.ah]⟩:=rfl
@[simp] theorem tab67:assoc aq 67=some ⟨.sl 66,1,24,[.ah]⟩:=rfl
@[simp] theorem tab69:assoc aq 69=some ⟨.bK [(0,3),(1,3),(2,4),(3,64),(7,66),(10,62),(11,67)],12,168,[.int .i64 0,.int .i64 0,.bool false,.int .i64 0,.int .i64 0,.str ⟨#[]⟩,.ah,.bool false,.int .i64 0,.ah,.ah,.ah]⟩:=rfl
@[simp] theorem tab70:assoc aq 70=some ⟨.sl 69,1,24,[.ah]⟩:=rfl
@[simp] theorem tab72:assoc aq 72=some ⟨.bK [(0,9),(1,3),(2,3),(3,3),(4,70)],5,64,[.str ⟨#[]⟩,.int .i64 0,.int .i64 0,.int .i64 0,.ah]⟩:=rfl
@[simp] theorem tab74:assoc aq 74=some ⟨.bK [(0,3),(1,22)],2,32,[.int .i64 0,.ah]⟩:=rfl
@[simp] theorem tab95:assoc aq 95=some ⟨.bK [(0,9),(1,4),(2,3)],3,32,[.str ⟨#[]⟩,.bool false,.int .i64 0]⟩:=rfl
@[simp] theorem tab96:assoc aq 96=some ⟨.sl 100,1,24,[.ah]⟩:=rfl
@[simp] theorem tab98:assoc aq 98=some ⟨.bK [(0,96)],1,24,[.ah]⟩:=rfl
@[simp] theorem tab100:assoc aq 100=some ⟨.bK [(0,3),(1,3),(2,22),(3,22)],4,64,[.int .i64 0,.int .i64 0,.ah,.ah]⟩:=rfl
@[simp] theorem tab103:assoc aq 103=some ⟨.bK [(0,3),(1,3)],2,16,[.int .i64 0,.int .i64 0]⟩:=rfl
@[simp] theorem tab106:assoc aq 106=some ⟨.sl 5,1,24,[.ah]⟩:=rfl
@[simp] theorem tab119:assoc aq 119=some ⟨.arr 6 3,6,48,[.int .i64 0,.int .i64 0,.int .i64 0,.int .i64 0,.int .i64 0,.int .i64 0]⟩:=rfl
@[simp] theorem tab121:assoc aq 121=some ⟨.bK [(0,3),(1,3),(2,119)],8,64,[.int .i64 0,.int .i64 0,.int .i64 0,.int .i64 0,.int .i64 0,.int .i64 0,.int .i64 0,.int .i64 0]⟩:=rfl
@[simp] theorem tab125:assoc aq 125=some ⟨.ptr 127,1,8,[.bm]⟩:=rfl
@[simp] theorem tab127:assoc aq 127=some ⟨.bK [(0,22),(1,3)],2,32,[.ah,.int .i64 0]⟩:=rfl
@[simp] theorem tab129:assoc aq 129=some ⟨.bK [(0,125),(1,27),(4,3),(5,4)],6,96,[.bm,.ah,.ah,.ah,.int .i64 0,.bool false]⟩:=rfl
@[simp] theorem tab131:assoc aq 131=some ⟨.sl 9,1,24,[.ah]⟩:=rfl
@[simp] theorem tab133:assoc aq 133=some ⟨.bK [(0,9),(1,3)],2,24,[.str ⟨#[]⟩,.int .i64 0]⟩:=rfl
@[simp] theorem tab134:assoc aq 134=some ⟨.sl 139,1,24,[.ah]⟩:=rfl
@[simp] theorem tab135:assoc aq 135=some ⟨.sl 188,1,24,[.ah]⟩:=rfl
@[simp] theorem tab137:assoc aq 137=some ⟨.bK [(0,9),(1,134),(2,135)],3,64,[.str ⟨#[]⟩,.ah,.ah]⟩:=rfl
@[simp] theorem tab139:assoc aq 139=some ⟨.bK [(0,9),(1,4)],2,24,[.str ⟨#[]⟩,.bool false]⟩:=rfl
@[simp] theorem tab142:assoc aq 142=some ⟨.sl 146,1,24,[.ah]⟩:=rfl
@[simp] theorem tab146:assoc aq 146=some ⟨.bK [(0,9),(1,3),(2,3)],3,32,[.str ⟨#[]⟩,.int .i64 0,.int .i64 0]⟩:=rfl
@[simp] theorem tab156:assoc aq 156=some ⟨.bK [(0,3),(1,3)],2,16,[.int .i64 0,.int .i64 0]⟩:=rfl
@[simp] theorem tab157:assoc aq 157=some ⟨.sl 172,1,24,[.ah]⟩:=rfl
@[simp] theorem tab162:assoc aq 162=some ⟨.bK [(0,157),(1,3),(2,3),(3,55),(4,3),(5,3)],6,64,[.ah,.int .i64 0,.int .i64 0,.int .i64 0,.int .i64 0,.int .i64 0]⟩:=rfl
@[simp] theorem tab172:assoc aq 172=some ⟨.bK [(0,3),(1,9),(2,3),(3,3)],4,40,[.int .i64 0,.str ⟨#[]⟩,.int .i64 0,.int .i64 0]⟩:=rfl
@[simp] theorem tab185:assoc aq 185=some ⟨.bK [(0,9),(1,62)],2,40,[.str ⟨#[]⟩,.ah]⟩:=rfl
@[simp] theorem tab186:assoc aq 186=some ⟨.sl 227,1,24,[.ah]⟩:=rfl
@[simp] theorem tab188:assoc aq 188=some ⟨.bK [(0,3),(1,9),(2,64),(6,185),(8,186),(9,135),(10,135)],11,192,[.int .i64 0,.str ⟨#[]⟩,.int .i64 0,.int .i64 0,.str ⟨#[]⟩,.ah,.str ⟨#[]⟩,.ah,.ah,.ah,.ah]⟩:=rfl
@[simp] theorem tab196:assoc aq 196=some ⟨.bK [(0,27),(3,142),(4,3),(5,3),(6,3),(7,55),(8,70),(9,22)],10,176,[.ah,.ah,.ah,.ah,.int .i64 0,.int .i64 0,.int .i64 0,.int .i64 0,.ah,.ah]⟩:=rfl
@[simp] theorem tab224:assoc aq 224=some ⟨.int .u64,1,8,[.int .u64 0]⟩:=rfl
@[simp] theorem tab227:assoc aq 227=some ⟨.bK [(0,4),(1,185),(3,64)],7,104,[.bool false,.str ⟨#[]⟩,.ah,.int .i64 0,.int .i64 0,.str ⟨#[]⟩,.ah]⟩:=rfl
@[simp] theorem tab173:assoc aq 173=some ⟨.ptr 100,1,8,[.bm]⟩:=rfl
theorem follows:Tryz.prog.follows .mixedOrders=true:=by kernel_rfl
theorem ct (n:Int)(h : -9223372036854775808≤n)(h':n≤9223372036854775807):IntKind.i64.wrap n=n:=IntWalk.i64_in n ⟨h,h'⟩
section
variable {C:Cx}{s:St}{Q:Exit→St→Prop}{x y:Code}{id:Nat}{l:List Oper}{ops:Array Oper}{K:St→Prop}
theorem au (h:za aq C.nt l.toArray (Bh Tryz.prog C l.toArray (eR (fun s'=>T Tryz.prog C y s' Q) Q .normal)) l s):T Tryz.prog C (.seq (.region id l.toArray false) y) s Q:=T.seq (T.go' ag h)
theorem aJ (h:za aq C.nt l.toArray (Bh Tryz.prog C l.toArray (eR (fun s'=>T Tryz.prog C x s' (eR (fun s'=>T Tryz.prog C y s' Q) Q)) (eR (fun s'=>T Tryz.prog C y s' Q) Q) .normal)) l s):T Tryz.prog C (.seq (.seq (.region id l.toArray false) x) y) s Q:=T.seq (T.seq (T.go' ag h))
theorem cH {o:Oper}{c:Call}{g:FuncId}{cs:List CV}{r:CV}(ht:trees cs=true)(hp:ae Tryz.prog g cs r)(h:za aq C.nt ops (Bh Tryz.prog C ops K) l (s.put o.dst r))(hd:aU C.nt o.dst=true:=by simp[hC])(hg:o.guard=none:=by rfl)(ho:o.op=.call c:=by rfl)(hca:bl s c=some (g,cs):=by rfl):TL Tryz.prog C ops (o::l) s K:=TL.call hd hg ho (bF.of hca ht hp) (TL.go' ag h)
end
section
variable {C:Cx}{s:St}{Q:Exit→St→Prop}{x y:Code}{c:Operand}{id:Nat}{l:List Oper}
theorem e9 (h:Q .normal s)(hc:ev s c=some (.bool false):=by rfl):T Tryz.prog C (.cond c x .skip) s Q:=T.cond (b:=false) hc (T.skip h)
theorem iv (h:Q .normal s)(hc:ev s c=some (.bool true):=by rfl):T Tryz.prog C (.cond c .skip y) s Q:=T.cond (b:=true) hc (T.skip h)
theorem bj (h:T Tryz.prog C (if false then x else y) s Q)(hc:ev s c=some (.bool false):=by rfl):T Tryz.prog C (.cond c x y) s Q:=T.cond (b:=false) hc h
theorem kB (h:T Tryz.prog C (if false then x else y) s Q)(hc:ev s c=some (.bool false):=by first | rfl | (simp[ev,assoc];done)):T Tryz.prog C (.cond c x y) s Q:=T.cond (b:=false) hc h
theorem dN (h:T Tryz.prog C (if true then x else y) s Q)(hc:ev s c=some (.bool true):=by rfl):T Tryz.prog C (.cond c x y) s Q:=T.cond (b:=true) hc h
theorem aO (h:za aq C.nt l.toArray (Bh Tryz.prog C l.toArray (Q .normal)) l s):T Tryz.prog C (.region id l.toArray false) s Q:=T.go' ag h
theorem fq {i:Nat}(h:T Tryz.prog C x s (oa i (eR (fun s'=>T Tryz.prog C y s' Q) Q))):T Tryz.prog C (.seq (.block i x) y) s Q:=T.seq (T.block h)
end
open Go.aX
theorem xR (x n:Int)(h0:0<n)(h1:n≤4611686018427387904):(IntKind.i64.wrap (x.tmod n+n)).tmod n=x % n∧n≠0:=by
 have hb1 : -n<x.tmod n:=by
  have:=Int.lt_tmod_of_pos x h0
  omega
 have hb2:x.tmod n<n:=Int.tmod_lt_of_pos x h0
 have hw:=ct (x.tmod n+n) yA yA
 refine⟨?_,by omega⟩
 rw[hw,Int.tmod_eq_emod_of_nonneg yA,Int.add_emod_right,Int.tmod_def]
 simp
theorem qO (x n:Int)(h0:0<n)(h1:n≤4611686018427387904):ae Tryz.prog 32 [I x,I n] (I (x % n)):=by
 refine ae.aB ag Tryz.func32 rfl yAb (by simp[Tryz.ntmps32]) rfl fun C hC hC0=>?_
 rw[Tryz.ntmps32] at hC
 obtain⟨ha,hn⟩:=xR x n h0 h1
 apply au
 simp[hC]
 apply au
 simp[hC,hn,ha]
 apply T.ret
 apply aa.here
 simp[Tryz.results32]
theorem Ld (l:List Int)(n:Nat)(_hl:l.length≤9223372036854775807):ae Tryz.prog 54 [ints l,I n] (ints (l.take n)):=by
 refine ae.aB ag Tryz.func54 rfl yAb (by simp[Tryz.ntmps54]) rfl fun C hC hC0=>?_
 rw[Tryz.ntmps54] at hC
 apply au
 simp[hC]
 apply aJ
 simp[hC,ints]
 refine T.bg rfl (fun h=>?_) (fun h=>?_)
 ·have hn:n<l.length:=by simpa using h
  have hn':n≤l.length:=by omega
  apply au
  simp[hC,hn,hn']
  apply T.ret
  apply aa.here
  simp[Tryz.results54]
 ·have hn:l.length≤n:=by simpa using h
  apply T.skip
  simp
  apply au
  simp[hC]
  apply T.ret
  apply aa.here
  simp[Tryz.results54]
  exact⟨(List.take_of_length_le (by simpa using hn)).symm,(Nat.min_eq_right hn).symm⟩
def aA (L:List Int)(i:Nat):Ob:=⟨127,0,[ints L,I i]⟩
def bb (l:List ByteArray):Ob:=⟨9,1,l.map .str⟩
theorem eB (l:List ByteArray):trees (l.map CV.str)=true:=by
 induction l with
 | nil=>rfl
 | cons a r ih=>simp only[List.map_cons,trees,ih,tree,Bool.and_self]
@[simp] theorem nmOb_frz (l:List ByteArray)(o:Nat)(cs:List CV)(n:Nat):(⟨(bb l).elem,(bb l).sz,(bb l).cells.map (cL o cs n)⟩:Ob)=bb l:=by simp[bb]
@[simp] theorem LL (ρ:Nat→Nat)(l:List ByteArray):ca ρ (bb l)=bb l:=by
 simp only[ca,bb,af ρ _ (eB l)]
@[simp] theorem Kj (ρ:Nat→Nat)(L:List Int)(i:Nat):ca ρ (aA L i)=aA L i:=by
 simp only[ca,aA,af ρ [ints L,I i] rfl]
@[simp] theorem IC (l:List ByteArray)(n:Nat):(bb l).cells.all (a8 n)=true:=aj (eB l) n
@[simp] theorem nmOb_lts (l:List ByteArray)(n:Nat):aQ n (bb l).cells=true:=by rw[a7];exact aj (eB l) n
@[simp] theorem Jn (l:List ByteArray)(n:Nat):l.all (a8 n∘CV.str)=true:=List.all_eq_true.2 fun _ _=>rfl
@[simp] theorem JX (l:List ByteArray)(o q:Nat):l.all (m8 o q∘CV.str)=true:=List.all_eq_true.2 fun _ _=>rfl
@[simp] theorem EL (l:List ByteArray)(n o q:Nat):l.all (a8 n∘dj o q∘CV.str)=true:=List.all_eq_true.2 fun _ _=>rfl
@[simp] theorem Kt (o q:Nat):dj o q∘CV.str=CV.str:=rfl
@[simp] theorem nmOb_ok1 (l:List ByteArray)(o q:Nat):(bb l).cells.all (m8 o q)=true:=bh (eB l) o q
@[simp] theorem D7 (l:List ByteArray)(o q:Nat):(bb l).cells.map (dj o q)=(bb l).cells:=aY (eB l) o q
@[simp] theorem nmOb_eta (l:List ByteArray):(⟨(bb l).elem,(bb l).sz,(bb l).cells⟩:Ob)=bb l:=rfl
@[simp] theorem Ma (l:List ByteArray)(n o q:Nat):(bb l).cells.all (a8 n∘dj o q)=true:=by rw[← List.all_map,D7];exact IC l n
@[simp] theorem LH (L:List Int)(i o:Nat)(cs:List CV)(n:Nat):(⟨(aA L i).elem,(aA L i).sz,(aA L i).cells.map (cL o cs n)⟩:Ob)=aA L i:=by simp[aA,ints]
theorem cz (L:List Int)(i n:Nat)(_hi:i≤L.length)(hL:L.length≤1000)(hn:0<n)(hn2:n≤4611686018427387904) :
  Body Tryz.prog aq 55 [.aw 0 0,I n] [(0,aA L i)] 1 (kk (I (cb L i n).1) [(0,aA L (cb L i n).2)] 1):=by
 refine Body.j5 Tryz.func55 rfl yAb (by simp[Tryz.ntmps55]) fun C hC hC0=>?_
 rw[Tryz.ntmps55] at hC
 apply au
 simp[hC]
 refine T.seq (T.seq ?_)
 refine T.rx ag follows [0,1,2,3,4,5,6,7,8,9] [] yAb ?_
 simp[hC,aA,ints]
 refine T.bg rfl (fun h=>?_) (fun h=>?_)
 ·have hil:L.length≤i:=by simpa using h
  have hx:cb L i n=(0,i):=by
   unfold cb
   rw[List.getElem?_eq_none hil]
  apply au
  simp[hC]
  apply T.ret
  refine aa.trim [4] [0] 1 yAa yA ⟨_,rfl,?_⟩
  simp[kk,hx]
 ·have hil:i<L.length:=by simpa using h
  obtain⟨x,hxl⟩:∃ x,L[i]? = some x:=⟨L[i],List.getElem?_eq_getElem hil⟩
  have hx:cb L i n=((x % (n:Int)).toNat,i+1):=by
   unfold cb
   rw[hxl]
  have wi:=ct ((i:Int)+1) yA yA
  have wj:((i:Int)+1)-1=(i:Int):=by omega
  have wk:=ct (i:Int) yA yA
  have he:=Int.emod_nonneg x (show (n:Int)≠0 by omega)
  have het:(((x % (n:Int)).toNat:Nat):Int)=x % n:=Int.toNat_of_nonneg he
  have hxd:(L.map bM).drop i=I x::(L.map bM).drop (i+1):=by
   rw[List.drop_eq_getElem_cons (by simpa using hil)]
   have:=(List.getElem?_eq_some_iff.1 hxl).2
   simp[bM,this]
  apply T.skip
  simp
  apply au
  simp[hC,wi]
  apply T.seq
  refine T.rx ag follows [0,1,2,3,4,5,6,7,8,9,10,11,12,13] [] yAb ?_
  simp[hC,wj,wk,hil,hxd]
  refine RX.call rfl yAa rfl rfl rfl rfl (qO x n yA yA) ?_
  simp
  apply T.ret
  refine aa.trim [4] [0] 1 yAa yA ⟨_,rfl,?_⟩
  simp[kk,hx,het]
theorem D5 (L:List Int)(i:Nat)(hi:i≤L.length)(hL:L.length≤1000) :
  Body Tryz.prog aq 150 [.aw 0 0] [(0,aA L i)] 1 (kk (I (vS L i).1) [(0,aA L (vS L i).2)] 1):=by
 refine Body.j5 Tryz.func150 rfl yAb (by simp[Tryz.ntmps150]) fun C hC hC0=>?_
 rw[Tryz.ntmps150] at hC
 apply au
 simp[hC]
 apply aJ
 simp[hC]
 refine TL.cO ag [0] 1 (cz L i 8 hi hL yA yA) yAc rfl rfl rfl rfl yAa yAi yAj rfl (TL.go' ag ?_)
 simp[hC]
 have hi8:=ba L 8 hi
 refine T.bg rfl (fun h=>?_) (fun h=>?_)
 ·have h1:(cb L i 8).1=1:=by simp at h;omega
  apply au
  simp[hC]
  refine TL.cO ag [0] 1 (cz L _ 4611686018427387904 hi8 hL yA yA) yAc rfl rfl rfl rfl yAa yAi yAj rfl (TL.go' ag ?_)
  simp[hC]
  apply T.ret
  refine aa.trim [2] [0] 1 yAx yA ⟨_,rfl,?_⟩
  simp[kk,vS,h1]
 ·have h1:¬ (cb L i 8).1=1:=by simp at h;omega
  apply T.skip
  simp
  apply au
  simp[hC]
  refine TL.cO ag [0] 1 (cz L _ 4 hi8 hL yA yA) yAc rfl rfl rfl rfl yAa yAi yAj rfl (TL.go' ag ?_)
  simp[hC]
  apply T.ret
  refine aa.trim [2] [0] 1 yAx yA ⟨_,rfl,?_⟩
  simp[kk,vS,h1]
def EU:List CV:=[.int .i64 0,.int .i64 0,.str ⟨#[]⟩,.ah]
theorem jg {ns:List ByteArray}{i:Nat}(h:i<ns.length):(ns.map CV.str).drop i=.str (ns.getD i eS)::(ns.map CV.str).drop (i+1):=by
 rw[List.drop_eq_getElem_cons yAy]
 simp[h]
theorem GY (L:List Int)(ns:List ByteArray)(d i:Nat)(h:d=0∨(cb L i 10).1<2):qv L ns d i=qj L ns (cb L i 10).2:=by
 cases d with
 | zero=>rfl
 | succ d=>
  rw[qv,if_pos]
  rcases h with h | h
  ·cases h
  ·exact h
theorem aC:∀ a b:List CV,trees (a++b)=(trees a && trees b)
 | [],b=>by simp[trees]
 | x::r,b=>by simp[trees,Bool.and_assoc]
@[simp] theorem aN (e:Ex):trees (aZ e)=true:=by cases e<;>rfl
theorem drop8 (a:Ex)(x y z w:CV):List.drop 8 (aZ a++[x,y,z,w])=[]:=List.drop_eq_nil_of_le (by simp[bk])
theorem p5 (e:Ex):List.take 4 (aZ e)=aZ e:=List.take_of_length_le (by simp[bk])
theorem DE (a b:Ex):List.take 8 (aZ a++aZ b)=aZ a++aZ b:=List.take_of_length_le (by simp[bk])
theorem FM (n:Nat)(e:Ex)(x:CV)(h:x∈aZ e):a8 n x=true:=by
 rw[bL] at h
 simp only[List.mem_cons,List.not_mem_nil,or_false] at h
 rcases h with rfl | rfl | rfl | rfl<;>rfl
theorem gv (n:Nat)(e:Ex):(aZ e).all (a8 n)=true:=List.all_eq_true.2 (FM n e)
@[simp] theorem nz_exC (e:Ex):(aZ e).map nz=aZ e:=by cases e<;>rfl
@[simp] theorem frz_exC (o:Nat)(cs:List CV)(n:Nat)(e:Ex):(aZ e).map (cL o cs n)=aZ e:=by cases e<;>rfl
attribute [simp] p5 DE bk
theorem ui (L:List Int)(hL:L.length≤1000)(ns:List ByteArray)(hns:ns.length≤1000):∀ (d i:Nat),d≤1000→i≤L.length →
  Body Tryz.prog aq 123 [.aw 0 0,.bx 3 0 ns.length,I d] [(0,aA L i),(3,bb ns)] 4 (kk (.agg (aZ (qv L ns d i).1)) [(0,aA L (qv L ns d i).2),(3,bb ns)] 4):=by
 intro d
 induction d using Nat.strongRecOn with
 | _ d ih=>
 intro i hd hi
 refine Body.j5 Tryz.func123 rfl yAb (by simp[Tryz.ntmps123]) fun C hC hC0=>?_
 rw[Tryz.ntmps123] at hC
 apply au
 simp[hC]
 apply au
 simp[hC]
 refine TL.cO ag [0] 1 (cz L i 10 hi hL yA yA) yAc rfl rfl rfl rfl yAa yAi yAj rfl (TL.go' ag ?_)
 simp[hC]
 have hi1:=ba L 10 hi
 have hlf:=GY L ns d i
 generalize hk:cb L i 10=k at hi1 hlf
 apply fq
 refine T.cut (fun s=>s=⟨[(10,.bool (decide (d=0) || decide (k.1<2))),(7,I k.1),(6,.aw 4 0),(0,.aw 0 0),(1,.bx 3 0 ns.length),(2,I d)],[(0,aA L k.2),(3,bb ns),(4,⟨64,0,EU⟩)],5⟩) ?_ ?_
 ·by_cases h0:d=0
  ·apply aO
   simp[hC,h0]
   refine aa.trim [10,7,6,0,1,2] [0,3,4] 5 yAx yA ?_
   simp[EU]
  ·apply aO
   simp[hC,h0]
   refine aa.trim [10,7,6,0,1,2] [0,3,4] 5 yAx yA ?_
   simp[EU]
 ·rintro s rfl
  refine T.bg rfl (fun h=>?_) (fun h=>?_)
  ·have hl:d=0∨k.1<2:=by simpa using h
   rw[hlf hl]
   clear hlf ih
      /- the leaf: is there a name to be taken? -/
   refine T.seq (T.cut (fun s=>s=⟨[(24,.bool (decide (0<ns.length∧(cb L k.2 2).1=1))),(6,.aw 4 0),(0,.aw 0 0),(1,.bx 3 0 ns.length)],[(0,aA L (if 0<ns.length then (cb L k.2 2).2 else k.2)),(3,bb ns),(4,⟨64,0,EU⟩)],5⟩) ?_ ?_)
   ·by_cases hns0:0<ns.length
    ·apply aO
     simp[hC,hns0]
     refine TL.cO ag [0] 1 (cz L k.2 2 hi1 hL yA yA) yAc rfl rfl rfl rfl yAa yAi yAj rfl (TL.go' ag ?_)
     simp[hC]
     refine aa.trim [24,6,0,1] [0,3,4] 5 (by simp[aA,EU]) yA ?_
     simp[EU]
    ·apply aO
     simp[hC,hns0]
     refine aa.trim [24,6,0,1] [0,3,4] 5 (by simp[aA,EU]) yA ?_
     simp[EU]
   ·rintro s rfl
    have hi2:=ba L 2 hi1
    refine T.bg rfl (fun h=>?_) (fun h=>?_)
    ·have hh:0<ns.length∧(cb L k.2 2).1=1:=by simpa using h
     have hlt:=dk L (cb L k.2 2).2 hh.1
     have hdr:=jg hlt
     apply au
     simp[hC,hh.1]
     refine TL.cO ag [0] 1 (cz L _ ns.length hi2 hL yA yA) yAc rfl rfl rfl rfl yAa yAi yAj rfl (TL.go' ag ?_)
     simp[hC,hlt,hdr,bb,EU]
     apply T.ret
     refine aa.le (Le.nz [] [4]) ?_
     simp
     refine aa.le (Le.cG (o:=4) rfl rfl) ?_
     simp
     refine aa.trim [6] [0,3] 4 yAx yA ⟨_,rfl,?_⟩
     simp[kk,qj,hh.1,hh.2,aZ,eS,hlt]
    ·have hh:¬ (0<ns.length∧(cb L k.2 2).1=1):=by simpa using h
     have hi3:(if 0<ns.length then (cb L k.2 2).2 else k.2)≤L.length:=by
      split
      ·exact hi2
      ·exact hi1
     apply T.skip
     simp
     apply au
     simp[hC]
     refine TL.cO ag [0] 1 (D5 L _ hi3 hL) yAc rfl rfl rfl rfl yAa yAi yAj rfl (TL.go' ag ?_)
     simp[hC,EU]
     apply T.ret
     refine aa.le (Le.nz [] [4]) ?_
     simp
     refine aa.le (Le.cG (o:=4) rfl rfl) ?_
     simp
     refine aa.trim [6] [0,3] 4 yAx yA ⟨_,rfl,?_⟩
     simp[kk,qj,hh,aZ,eS]
  ·have hd0:¬ d=0∧¬ k.1<2:=by simpa using h
   obtain⟨e,rfl⟩:∃ e,d=e+1:=⟨d-1,by omega⟩
   have he1:((e+1:Nat):Int)-1=(e:Int):=by omega
   have we:=ct (e:Int) yA yA
   have ihe:=ih e yA
   apply au
   simp[hC]
   refine T.bg rfl (fun h=>?_) (fun h=>?_)
   ·have hk4:k.1<4:=by simpa using h
    have hx:qv L ns (e+1) i=(.un (k.1 % 2) (qv L ns e k.2).1,(qv L ns e k.2).2):=by
     rw[qv,hk,if_neg hd0.2,if_pos hk4]
    have hi4:=nU L ns e hi1
    have wm:=ct (3+(k.1:Int) % 2) yA yA
    have htm:(k.1:Int).tmod 2=(k.1:Int) % 2:=Int.tmod_eq_emod_of_nonneg yA
    apply au
    simp[hC,we,htm,wm]
    refine TL.cO ag [0,3] 4 (ihe k.2 yA hi1) yAc rfl rfl rfl rfl yAa yAi yAj rfl (TL.go' ag ?_)
    simp[hC,EU,bk,aI]
    apply T.ret
    refine aa.le (Le.trim [6] [0,3,4,5] 6 yBz yA) ?_
    simp
    refine aa.le (Le.cG (o:=5) rfl (by simp only[aN])) ?_
    simp
    refine aa.le (Le.cG (o:=4) rfl rfl) ?_
    simp
    refine aa.trim [6] [0,3] 4 yAx yA ⟨_,rfl,?_⟩
    simp[kk,hx,aZ,eS]
   ·have hk4:¬ k.1<4:=by simpa using h
    have hx:qv L ns (e+1) i=(.bin (cb L k.2 13).1 (qv L ns e (cb L k.2 13).2).1 (qv L ns e (qv L ns e (cb L k.2 13).2).2).1,(qv L ns e (qv L ns e (cb L k.2 13).2).2).2):=by
     rw[qv,hk,if_neg hd0.2,if_neg hk4]
    have hi4:=ba L 13 hi1
    have hi5:=nU L ns e hi4
    have wb:=ct (5+((cb L k.2 13).1:Int)) yA (by have:=dk L k.2 (show 0<13 by omega);omega)
    apply T.skip
    simp
    apply au
    simp[hC]
    refine TL.cO ag [0] 1 (cz L k.2 13 hi1 hL yA yA) yAc rfl rfl rfl rfl yAa yAi yAj rfl (TL.go' ag ?_)
    simp[hC,wb,we]
    refine TL.cO ag [0,3] 4 (ihe _ yA hi4) yAc rfl rfl rfl rfl yAa yAi yAj rfl (TL.go' ag ?_)
    simp[hC,we]
    refine TL.cO ag [0,3] 4 (ihe _ yA hi5) yAc rfl rfl rfl rfl yAa yAi yAj rfl (TL.go' ag ?_)
    simp[hC,EU,bk,aI,drop8]
    apply T.ret
    refine aa.le (Le.trim [6] [0,3,4,5] 6 yBz yA) ?_
    simp
    refine aa.le (Le.cG (o:=5) rfl (by simp only[aC,aN,Bool.and_self])) ?_
    simp
    refine aa.le (Le.cG (o:=4) rfl rfl) ?_
    simp
    refine aa.trim [6] [0,3] 4 yAx yA ⟨_,rfl,?_⟩
    simp[kk,hx,aZ,eS]
end Go.Proofs.YtmnglemlimfpbaaGreat
namespace Go.aX
open Go.Can
def fz (left:Nat):ByteArray:=⟨#[118]⟩++⟨#[UInt8.ofNat (97+left % 26),UInt8.ofNat (97+left / 26 % 26)]⟩
structure J4 where
 out:List Sm
 vars:List ByteArray
 i:Nat
 left:Nat
structure Wr where
 L:List Int
 ar:Bool
 ms:List Mx
 fs:List (ByteArray×List Pm)
abbrev Rec:=List ByteArray→Nat→Nat→Nat→Nat→List Sm×Nat×Nat
def AH (w:Wr)(rec:Rec)(ps:List Pm)(vars:List ByteArray)(i left:Nat):J4:=
 ⟨.dB false (ju w.L w.ar w.ms ps vars i).1::(rec vars 0 2 (ju w.L w.ar w.ms ps vars i).2 left).1++[.dB true (ju w.L w.ar w.ms ps vars i).1],vars,(rec vars 0 2 (ju w.L w.ar w.ms ps vars i).2 left).2.1,(rec vars 0 2 (ju w.L w.ar w.ms ps vars i).2 left).2.2⟩
def gW (w:Wr)(ps:List Pm)(vars:List ByteArray)(go:Bool)(i left:Nat):J4:=
 ⟨[.dY go (w.fs.getD (cb w.L i w.fs.length).1 (eS,[])).1 (dg w.L w.ar w.ms ps vars (w.fs.getD (cb w.L i w.fs.length).1 (eS,[])).2 (cb w.L i w.fs.length).2).1],vars,(dg w.L w.ar w.ms ps vars (w.fs.getD (cb w.L i w.fs.length).1 (eS,[])).2 (cb w.L i w.fs.length).2).2,left⟩
def Mp (w:Wr)(rec:Rec)(vars:List ByteArray)(deep i left:Nat):J4:=
 let e:=dq w.L w.ar vars i
 let th:=rec vars (deep-1) 3 e.2 left
 let c:=cb w.L th.2.1 2
 if c.1=1 then
  let el:=rec vars (deep-1) 3 c.2 th.2.2
  ⟨[.lG e.1 th.1 el.1],vars,el.2.1,el.2.2⟩
 else ⟨[.lG e.1 th.1 []],vars,c.2,th.2.2⟩
def LA (w:Wr)(rec:Rec)(vars:List ByteArray)(deep i left:Nat):J4:=
 let e:=dq w.L w.ar vars i
 let th:=rec vars (deep-1) 3 e.2 left
 ⟨[.cJ e.1 th.1],vars,th.2.1,th.2.2⟩
def y8 (w:Wr)(rec:Rec)(ps:List Pm)(vars:List ByteArray)(deep i0 left:Nat):J4:=
 let k:=(cb w.L i0 14).1
 let i:=(cb w.L i0 14).2
 if k<4 then ⟨[.dB false (ju w.L w.ar w.ms ps vars i).1],vars,(ju w.L w.ar w.ms ps vars i).2,left⟩
 else if k<7 then ⟨[.dB true (ju w.L w.ar w.ms ps vars i).1],vars,(ju w.L w.ar w.ms ps vars i).2,left⟩
 else if k=7 then ⟨[.gZ (fz left) (dq w.L w.ar vars i).1],vars++[fz left],(dq w.L w.ar vars i).2,left⟩
 else if k=8∧0<vars.length then ⟨[.iF (vars.getD (cb w.L i vars.length).1 eS) (dq w.L w.ar vars (cb w.L i vars.length).2).1],vars,(dq w.L w.ar vars (cb w.L i vars.length).2).2,left⟩
 else if k=9 then gW w ps vars false i left
 else if k=10 then gW w ps vars true i left
 else if k=11∧0<deep then Mp w rec vars deep i left
 else if k=12∧0<deep then LA w rec vars deep i left
 else if k=13∧(cb w.L i 3).1=1 then ⟨[.jC],vars,(cb w.L i 3).2,left⟩
 else if k=13 then AH w rec ps vars (cb w.L i 3).2 left
 else AH w rec ps vars i left
def sd (w:Wr)(rec:Rec)(ps:List Pm)(deep:Nat):Nat→List ByteArray→Nat→Nat→List Sm×Nat×Nat
 | 0,_,i,left=>([],i,left)
 | n+1,vars,i,left=>
  if left=0 then ([],i,left) else
  let s:=y8 w rec ps vars deep i (left-1)
  let r:=sd w rec ps deep n s.vars s.i s.left
  (s.out++r.1,r.2)
def nh (w:Wr)(ps:List Pm):Nat→Rec
 | 0=>fun _ _ most i left=>([],(cb w.L i (most+1)).2,left)
 | f+1=>fun vars deep most i left=>sd w (nh w ps f) ps deep (cb w.L i (most+1)).1 vars (cb w.L i (most+1)).2 left
def vE (L:List Int)(rec:Rec):Prop:=∀ vars deep most i left,i≤L.length→(rec vars deep most i left).2.1≤L.length∧(rec vars deep most i left).1.length+2*(rec vars deep most i left).2.2≤2*left
structure HF (L:List Int)(vars:List ByteArray)(left:Nat)(b:J4):Prop where
 i:b.i≤L.length
 n:b.out.length+2*b.left≤2*(left+1)
 v:b.vars.length+b.left≤vars.length+left+1
 l:b.left≤left
 p:0<b.out.length
theorem Dg {w:Wr}{rec:Rec}(h:vE w.L rec)(ps:List Pm)(vars:List ByteArray){i:Nat}(left:Nat)(hi:i≤w.L.length):HF w.L vars left (AH w rec ps vars i left):=by
 obtain⟨h1,h2⟩:=h vars 0 2 _ left (qe w.L w.ar w.ms ps vars hi)
 refine⟨h1,?_,?_,?_,?_⟩<;>simp only[AH,List.length_append,List.length_cons,List.length_nil]<;>omega
theorem AY {w:Wr}(ps:List Pm)(vars:List ByteArray)(go:Bool){i:Nat}(left:Nat)(hi:i≤w.L.length):HF w.L vars left (gW w ps vars go i left):=by
 refine⟨qG _ _ _ _ _ _ (ba _ _ hi),?_,?_,?_,?_⟩<;>simp only[gW,List.length_cons,List.length_nil]<;>omega
theorem J5 {w:Wr}{rec:Rec}(h:vE w.L rec)(vars:List ByteArray)(deep:Nat){i:Nat}(left:Nat)(hi:i≤w.L.length):HF w.L vars left (LA w rec vars deep i left):=by
 obtain⟨h1,h2⟩:=h vars (deep-1) 3 _ left (ke w.L w.ar vars hi)
 refine⟨h1,?_,?_,?_,?_⟩<;>simp only[LA,List.length_cons,List.length_nil]<;>omega
theorem KY {w:Wr}{rec:Rec}(h:vE w.L rec)(vars:List ByteArray)(deep:Nat){i:Nat}(left:Nat)(hi:i≤w.L.length):HF w.L vars left (Mp w rec vars deep i left):=by
 obtain⟨h1,h2⟩:=h vars (deep-1) 3 _ left (ke w.L w.ar vars hi)
 obtain⟨h3,h4⟩:=h vars (deep-1) 3 (cb w.L (rec vars (deep-1) 3 (dq w.L w.ar vars i).2 left).2.1 2).2 (rec vars (deep-1) 3 (dq w.L w.ar vars i).2 left).2.2 (ba _ _ h1)
 unfold Mp
 simp only
 split
 ·refine⟨h3,?_,?_,?_,?_⟩<;>simp only[List.length_cons,List.length_nil]<;>omega
 ·refine⟨ba _ _ h1,?_,?_,?_,?_⟩<;>simp only[List.length_cons,List.length_nil]<;>omega
theorem Fw {w:Wr}{rec:Rec}(h:vE w.L rec)(ps:List Pm)(vars:List ByteArray)(deep:Nat){i:Nat}(left:Nat)(hi:i≤w.L.length):HF w.L vars left (y8 w rec ps vars deep i left):=by
 have hi1:=ba w.L 14 hi
 unfold y8
 simp only
 split
 ·exact⟨qe _ _ _ _ _ hi1,by simp<;>omega,by simp<;>omega,Nat.le_refl _,by simp⟩
 split
 ·exact⟨qe _ _ _ _ _ hi1,by simp<;>omega,by simp<;>omega,Nat.le_refl _,by simp⟩
 split
 ·exact⟨ke _ _ _ hi1,by simp<;>omega,by simp<;>omega,Nat.le_refl _,by simp⟩
 split
 ·exact⟨ke _ _ _ (ba _ _ hi1),by simp<;>omega,by simp<;>omega,Nat.le_refl _,by simp⟩
 split
 ·exact AY ps vars false left hi1
 split
 ·exact AY ps vars true left hi1
 split
 ·exact KY h vars deep left hi1
 split
 ·exact J5 h vars deep left hi1
 split
 ·exact⟨ba _ _ hi1,by simp<;>omega,by simp<;>omega,Nat.le_refl _,by simp⟩
 split
 ·exact Dg h ps vars left (ba _ _ hi1)
 ·exact Dg h ps vars left hi1
theorem Gm {w:Wr}{rec:Rec}(h:vE w.L rec)(ps:List Pm)(deep:Nat):∀ (n:Nat) (vars:List ByteArray) (i left:Nat),i≤w.L.length→(sd w rec ps deep n vars i left).2.1≤w.L.length∧(sd w rec ps deep n vars i left).1.length+2*(sd w rec ps deep n vars i left).2.2≤2*left
 | 0,vars,i,left,hi=>⟨hi,by simp[sd]⟩
 | n+1,vars,i,left,hi=>by
  rw[sd]
  split
  ·exact⟨hi,by simp⟩
  ·have h1:=Fw h ps vars deep (left-1) hi
   obtain⟨h2,h3⟩:=Gm h ps deep n (y8 w rec ps vars deep i (left-1)).vars (y8 w rec ps vars deep i (left-1)).i (y8 w rec ps vars deep i (left-1)).left h1.i
   refine⟨h2,?_⟩
   have:=h1.n
   simp only[List.length_append]
   omega
theorem tj (w:Wr)(ps:List Pm):∀ f:Nat,vE w.L (nh w ps f)
 | 0=>fun vars deep most i left hi=>⟨ba _ _ hi,by simp[nh]⟩
 | f+1=>fun vars deep most i left hi=>Gm (tj w ps f) ps deep _ vars _ left (ba _ _ hi)
def eg (n:Nat):ByteArray:=⟨#[UInt8.ofNat n]⟩
def qM (L:List Int):Nat→Nat→Nat→List Mx×Nat
 | 0,_,i=>([],i)
 | n+1,j,i=>
  if (cb L i 5).1=1 then (⟨eg (97+j),true,0⟩ :: (qM L n (j+1) (cb L i 5).2).1,(qM L n (j+1) (cb L i 5).2).2)
  else if (cb L i 5).1=2 then (⟨eg (97+j),false,1+(cb L (cb L i 5).2 3).1⟩ :: (qM L n (j+1) (cb L (cb L i 5).2 3).2).1,(qM L n (j+1) (cb L (cb L i 5).2 3).2).2)
  else (⟨eg (97+j),false,0⟩ :: (qM L n (j+1) (cb L i 5).2).1,(qM L n (j+1) (cb L i 5).2).2)
def vW (L:List Int):Nat→Nat→Nat→List Gl×Nat
 | 0,_,i=>([],i)
 | n+1,j,i=>(⟨⟨#[103]⟩++eg (48+j),((cb L i 5).1:Int)-2⟩ :: (vW L n (j+1) (cb L i 5).2).1,(vW L n (j+1) (cb L i 5).2).2)
def CK (L:List Int):Nat→Nat→List Pm×Nat
 | 0,i=>([],i)
 | n+1,i=>(⟨⟨#[112]⟩++eg (48+(n+1)),decide (0<(cb L i 3).1)⟩ :: (CK L n (cb L i 3).2).1,(CK L n (cb L i 3).2).2)
def u6 (L:List Int):Nat→Nat→Nat→List Fu×Nat
 | 0,_,i=>([],i)
 | n+1,j,i=>
  let p:=CK L (if j=0 then 0 else (cb L i 3).1) (cb L i 3).2
  (⟨if j=0 then ⟨#[109,97,105,110]⟩ else ⟨#[102]⟩++eg (48+j),p.1,[]⟩ :: (u6 L n (j+1) p.2).1,(u6 L n (j+1) p.2).2)
def jF (gs:List Gl)(ps:List Pm):List ByteArray:=gs.map (·.name)++ps.flatMap fun p=>if p.mutex=true then [] else [p.name]
def Ji (w:Wr)(gs:List Gl):Nat→Nat→List Fu→Nat→Nat→List Fu
 | 0,_,fs,_,_=>fs
 | n+1,j,fs,i,left=>
  match fs[j]? with
  | none=>fs
  | some f=>
   let b:=nh w f.params left (jF gs f.params) 2 6 i left
   Ji w gs n (j+1) (fs.set j ⟨f.name,f.params,b.1⟩) b.2.1 b.2.2
def Bj (l:List Int):Pg:=
 let L:=l.take 400
 let a:=cb L 0 3
 let nm:=cb L a.2 4
 let ms:=qM L (1+nm.1) 0 nm.2
 let ng:=cb L ms.2 3
 let gs:=vW L ng.1 0 ng.2
 let nf:=cb L gs.2 4
 let fs:=u6 L (nf.1+1) 0 nf.2
 ⟨gs.1,ms.1,Ji ⟨L,decide (a.1=1),ms.1,fs.1.map fun f=>(f.name,f.params)⟩ gs.1 (nf.1+1) 0 fs.1 fs.2 24⟩
end Go.aX
