/- The types of this program that the walks ask for. -/
import Derived.Test.YtnecpnjdonibmaaGreatZ19
import Derived.Test.YtnecpnjdonibmaaGreatProg
import Derived.KernelRfl
namespace Go.Proofs.YtnecpnjdonibmaaGreat
open Go.Can
def au:List (Nat×TI):=[
 (2,⟨.int .i64,1,8,[.int .i64 0]⟩),
 (3,⟨.int .i64,1,8,[.int .i64 0]⟩),
 (4,⟨.bool,1,1,[.bool false]⟩),
 (5,⟨.int .u8,1,1,[.int .u8 0]⟩),
 (9,⟨.str,1,16,[.str ⟨#[]⟩]⟩),
 (22,⟨.sl 3,1,24,[.ai]⟩),
 (23,⟨.sl 188,1,24,[.ai]⟩),
 (24,⟨.sl 93,1,24,[.ai]⟩),
 (25,⟨.sl 192,1,24,[.ai]⟩),
 (27,⟨.bw [(0,23),(1,24),(2,25)],3,72,[.ai,.ai,.ai]⟩),
 (28,⟨.sl 88,1,24,[.ai]⟩),
 (30,⟨.bw [(0,22),(1,24),(2,28),(3,3)],4,80,[.ai,.ai,.ai,.int .i64 0]⟩),
 (31,⟨.sl 90,1,24,[.ai]⟩),
 (32,⟨.sl 22,1,24,[.ai]⟩),
 (34,⟨.bw [(0,31),(1,32),(2,22)],3,72,[.ai,.ai,.ai]⟩),
 (67,⟨.sl 76,1,24,[.ai]⟩),
 (76,⟨.bw [(0,3),(1,3),(2,3),(3,3)],4,32,[.int .i64 0,.int .i64 0,.int .i64 0,.int .i64 0]⟩),
 (78,⟨.sl 80,1,24,[.ai]⟩),
 (80,⟨.bw [(0,3),(1,3),(2,9),(3,78)],4,56,[.int .i64 0,.int .i64 0,.str ⟨#[]⟩,.ai]⟩),
 (82,⟨.bw [(0,4),(1,3),(2,78)],3,40,[.bool false,.int .i64 0,.ai]⟩),
 (83,⟨.sl 82,1,24,[.ai]⟩),
 (85,⟨.bw [(0,3),(1,3),(2,4),(3,80),(7,82),(10,78),(11,83)],12,168,[.int .i64 0,.int .i64 0,.bool false,.int .i64 0,.int .i64 0,.str ⟨#[]⟩,.ai,.bool false,.int .i64 0,.ai,.ai,.ai]⟩),
 (86,⟨.sl 85,1,24,[.ai]⟩),
 (88,⟨.bw [(0,9),(1,3),(2,3),(3,3),(4,86)],5,64,[.str ⟨#[]⟩,.int .i64 0,.int .i64 0,.int .i64 0,.ai]⟩),
 (90,⟨.bw [(0,3),(1,22)],2,32,[.int .i64 0,.ai]⟩),
 (93,⟨.bw [(0,9),(1,4),(2,3)],3,32,[.str ⟨#[]⟩,.bool false,.int .i64 0]⟩),
 (108,⟨.ptr 110,1,8,[.bG]⟩),
 (110,⟨.bw [(0,22),(1,3)],2,32,[.ai,.int .i64 0]⟩),
 (118,⟨.int .i64,1,8,[.int .i64 0]⟩),
 (145,⟨.sl 5,1,24,[.ai]⟩),
 (152,⟨.sl 32,1,24,[.ai]⟩),
 (154,⟨.sl 157,1,24,[.ai]⟩),
 (157,⟨.bw [(0,3),(1,3),(2,3)],3,24,[.int .i64 0,.int .i64 0,.int .i64 0]⟩),
 (173,⟨.func,1,8,[.cd]⟩),
 (185,⟨.bw [(0,108),(1,27),(4,3),(5,4)],6,96,[.bG,.ai,.ai,.ai,.int .i64 0,.bool false]⟩),
 (186,⟨.sl 9,1,24,[.ai]⟩),
 (188,⟨.bw [(0,9),(1,3)],2,24,[.str ⟨#[]⟩,.int .i64 0]⟩),
 (189,⟨.sl 194,1,24,[.ai]⟩),
 (190,⟨.sl 265,1,24,[.ai]⟩),
 (192,⟨.bw [(0,9),(1,189),(2,190)],3,64,[.str ⟨#[]⟩,.ai,.ai]⟩),
 (194,⟨.bw [(0,9),(1,4)],2,24,[.str ⟨#[]⟩,.bool false]⟩),
 (197,⟨.sl 201,1,24,[.ai]⟩),
 (201,⟨.bw [(0,9),(1,3),(2,3)],3,32,[.str ⟨#[]⟩,.int .i64 0,.int .i64 0]⟩),
 (220,⟨.sl 234,1,24,[.ai]⟩),
 (225,⟨.bw [(0,220),(1,3),(2,3),(3,118),(4,3),(5,3)],6,64,[.ai,.int .i64 0,.int .i64 0,.int .i64 0,.int .i64 0,.int .i64 0]⟩),
 (234,⟨.bw [(0,3),(1,9),(2,3),(3,3)],4,40,[.int .i64 0,.str ⟨#[]⟩,.int .i64 0,.int .i64 0]⟩),
 (241,⟨.int .u64,1,8,[.int .u64 0]⟩),
 (242,⟨.Ml,1,8,[.any]⟩),
 (243,⟨.arr 2 3,2,16,[.int .i64 0,.int .i64 0]⟩),
 (247,⟨.bw [(0,32),(1,152),(2,22)],3,72,[.ai,.ai,.ai]⟩),
 (250,⟨.sl 3,1,24,[.ai]⟩),
 (262,⟨.bw [(0,9),(1,78)],2,40,[.str ⟨#[]⟩,.ai]⟩),
 (263,⟨.sl 323,1,24,[.ai]⟩),
 (265,⟨.bw [(0,3),(1,9),(2,80),(6,262),(8,263),(9,190),(10,190)],11,192,[.int .i64 0,.str ⟨#[]⟩,.int .i64 0,.int .i64 0,.str ⟨#[]⟩,.ai,.str ⟨#[]⟩,.ai,.ai,.ai,.ai]⟩),
 (273,⟨.bw [(0,27),(3,197),(4,3),(5,3),(6,3),(7,118),(8,86),(9,22)],10,176,[.ai,.ai,.ai,.ai,.int .i64 0,.int .i64 0,.int .i64 0,.int .i64 0,.ai,.ai]⟩),
 (290,⟨.func,1,8,[.cd]⟩),
 (300,⟨.int .u32,1,4,[.int .u32 0]⟩),
 (302,⟨.int .u64,1,8,[.int .u64 0]⟩),
 (323,⟨.bw [(0,4),(1,262),(3,80)],7,104,[.bool false,.str ⟨#[]⟩,.ai,.int .i64 0,.int .i64 0,.str ⟨#[]⟩,.ai]⟩),
 (343,⟨.int .u64,1,8,[.int .u64 0]⟩),
 (355,⟨.bw [(0,30),(4,90),(6,3),(7,290)],8,128,[.ai,.ai,.ai,.int .i64 0,.int .i64 0,.ai,.int .i64 0,.cd]⟩),
 (373,⟨.bw [],0,0,[]⟩),
 (375,⟨.bw [(0,3)],1,8,[.int .i64 0]⟩),
 (376,⟨.bw [(0,3)],1,8,[.int .i64 0]⟩),
 (377,⟨.bw [],0,0,[]⟩)]
theorem ah:aB Tryz.prog au:=
 aB.cons (cg.mk' PH PH rfl) <|
 aB.cons (cg.mk' PH PH rfl) <|
 aB.cons (cg.mk' PH PH rfl) <|
 aB.cons (cg.mk' PH PH rfl) <|
 aB.cons (cg.mk' PH PH rfl) <|
 aB.cons (cg.mk' PH PH rfl) <|
 aB.cons (cg.mk' PH PH rfl) <|
 aB.cons (cg.mk' PH PH rfl) <|
 aB.cons (cg.mk' PH PH rfl) <|
 aB.cons (cg.mk' PH PH rfl) <|
 aB.cons (cg.mk' PH PH rfl) <|
 aB.cons (cg.mk' PH PH rfl) <|
 aB.cons (cg.mk' PH PH rfl) <|
 aB.cons (cg.mk' PH PH rfl) <|
 aB.cons (cg.mk' PH PH rfl) <|
 aB.cons (cg.mk' PH PH rfl) <|
 aB.cons (cg.mk' PH PH rfl) <|
 aB.cons (cg.mk' PH PH rfl) <|
 aB.cons (cg.mk' PH PH rfl) <|
 aB.cons (cg.mk' PH PH rfl) <|
 aB.cons (cg.mk' PH PH rfl) <|
 aB.cons (cg.mk' PH PH rfl) <|
 aB.cons (cg.mk' PH PH rfl) <|
 aB.cons (cg.mk' PH PH rfl) <|
 aB.cons (cg.mk' PH PH rfl) <|
 aB.cons (cg.mk' PH PH rfl) <|
 aB.cons (cg.mk' PH PH rfl) <|
 aB.cons (cg.mk' PH PH rfl) <|
 aB.cons (cg.mk' PH PH rfl) <|
 aB.cons (cg.mk' PH PH rfl) <|
 aB.cons (cg.mk' PH PH rfl) <|
 aB.cons (cg.mk' PH PH rfl) <|
 aB.cons (cg.mk' PH PH rfl) <|
 aB.cons (cg.mk' PH PH rfl) <|
 aB.cons (cg.mk' PH PH rfl) <|
 aB.cons (cg.mk' PH PH rfl) <|
 aB.cons (cg.mk' PH PH rfl) <|
 aB.cons (cg.mk' PH PH rfl) <|
 aB.cons (cg.mk' PH PH rfl) <|
 aB.cons (cg.mk' PH PH rfl) <|
 aB.cons (cg.mk' PH PH rfl) <|
 aB.cons (cg.mk' PH PH rfl) <|
 aB.cons (cg.mk' PH PH rfl) <|
 aB.cons (cg.mk' PH PH rfl) <|
 aB.cons (cg.mk' PH PH rfl) <|
 aB.cons (cg.mk' PH PH rfl) <|
 aB.cons (cg.mk' PH PH rfl) <|
 aB.cons (cg.mk' PH PH rfl) <|
 aB.cons (cg.mk' PH PH rfl) <|
 aB.cons (cg.mk' PH PH rfl) <|
 aB.cons (cg.mk' PH PH rfl) <|
 aB.cons (cg.mk' PH PH rfl) <|
 aB.cons (cg.mk' PH PH rfl) <|
 aB.cons (cg.mk' PH PH rfl) <|
 aB.cons (cg.mk' PH PH rfl) <|
 aB.cons (cg.mk' PH PH rfl) <|
 aB.cons (cg.mk' PH PH rfl) <|
 aB.cons (cg.mk' PH PH rfl) <|
 aB.cons (cg.mk' PH PH rfl) <|
 aB.cons (cg.mk' PH PH rfl) <|
 aB.cons (cg.mk' PH PH rfl) <|
 aB.cons (cg.mk' PH PH rfl) <|
 aB.cons (cg.mk' PH PH rfl) <|
 aB.cons (cg.mk' PH PH rfl) <|
 aB.cons (cg.mk' PH PH rfl) <| aB.nil
@[simp] theorem tab2:assoc au 2=some ⟨.int .i64,1,8,[.int .i64 0]⟩:=rfl
@[simp] theorem tab3:assoc au 3=some ⟨.int .i64,1,8,[.int .i64 0]⟩:=rfl
@[simp] theorem tab4:assoc au 4=some ⟨.bool,1,1,[.bool false]⟩:=rfl
@[simp] theorem tab5:assoc au 5=some ⟨.int .u8,1,1,[.int .u8 0]⟩:=rfl
@[simp] theorem tab9:assoc au 9=some ⟨.str,1,16,[.str ⟨#[]⟩]⟩:=rfl
@[simp] theorem tab22:assoc au 22=some ⟨.sl 3,1,24,[.ai]⟩:=rfl
@[simp] theorem tab23:assoc au 23=some ⟨.sl 188,1,24,[.ai]⟩:=rfl
@[simp] theorem tab24:assoc au 24=some ⟨.sl 93,1,24,[.ai]⟩:=rfl
@[simp] theorem tab25:assoc au 25=some ⟨.sl 192,1,24,[.ai]⟩:=rfl
@[simp] theorem tab27:assoc au 27=some ⟨.bw [(0,23),(1,24),(2,25)],3,72,[.ai,.ai,.ai]⟩:=rfl
@[simp] theorem tab28:assoc au 28=some ⟨.sl 88,1,24,[.ai]⟩:=rfl
@[simp] theorem tab30:assoc au 30=some ⟨.bw [(0,22),(1,24),(2,28),(3,3)],4,80,[.ai,.ai,.ai,.int .i64 0]⟩:=rfl
@[simp] theorem tab31:assoc au 31=some ⟨.sl 90,1,24,[.ai]⟩:=rfl
@[simp] theorem tab32:assoc au 32=some ⟨.sl 22,1,24,[.ai]⟩:=rfl
@[simp] theorem tab34:assoc au 34=some ⟨.bw [(0,31),(1,32),(2,22)],3,72,[.ai,.ai,.ai]⟩:=rfl
@[simp] theorem tab67:assoc au 67=some ⟨.sl 76,1,24,[.ai]⟩:=rfl
@[simp] theorem tab76:assoc au 76=some ⟨.bw [(0,3),(1,3),(2,3),(3,3)],4,32,[.int .i64 0,.int .i64 0,.int .i64 0,.int .i64 0]⟩:=rfl
@[simp] theorem tab78:assoc au 78=some ⟨.sl 80,1,24,[.ai]⟩:=rfl
@[simp] theorem tab80:assoc au 80=some ⟨.bw [(0,3),(1,3),(2,9),(3,78)],4,56,[.int .i64 0,.int .i64 0,.str ⟨#[]⟩,.ai]⟩:=rfl
@[simp] theorem tab82:assoc au 82=some ⟨.bw [(0,4),(1,3),(2,78)],3,40,[.bool false,.int .i64 0,.ai]⟩:=rfl
@[simp] theorem tab83:assoc au 83=some ⟨.sl 82,1,24,[.ai]⟩:=rfl
@[simp] theorem tab85:assoc au 85=some ⟨.bw [(0,3),(1,3),(2,4),(3,80),(7,82),(10,78),(11,83)],12,168,[.int .i64 0,.int .i64 0,.bool false,.int .i64 0,.int .i64 0,.str ⟨#[]⟩,.ai,.bool false,.int .i64 0,.ai,.ai,.ai]⟩:=rfl
@[simp] theorem tab86:assoc au 86=some ⟨.sl 85,1,24,[.ai]⟩:=rfl
@[simp] theorem tab88:assoc au 88=some ⟨.bw [(0,9),(1,3),(2,3),(3,3),(4,86)],5,64,[.str ⟨#[]⟩,.int .i64 0,.int .i64 0,.int .i64 0,.ai]⟩:=rfl
@[simp] theorem tab90:assoc au 90=some ⟨.bw [(0,3),(1,22)],2,32,[.int .i64 0,.ai]⟩:=rfl
@[simp] theorem tab93:assoc au 93=some ⟨.bw [(0,9),(1,4),(2,3)],3,32,[.str ⟨#[]⟩,.bool false,.int .i64 0]⟩:=rfl
@[simp] theorem tab108:assoc au 108=some ⟨.ptr 110,1,8,[.bG]⟩:=rfl
@[simp] theorem tab110:assoc au 110=some ⟨.bw [(0,22),(1,3)],2,32,[.ai,.int .i64 0]⟩:=rfl
@[simp] theorem tab118:assoc au 118=some ⟨.int .i64,1,8,[.int .i64 0]⟩:=rfl
@[simp] theorem tab145:assoc au 145=some ⟨.sl 5,1,24,[.ai]⟩:=rfl
@[simp] theorem tab152:assoc au 152=some ⟨.sl 32,1,24,[.ai]⟩:=rfl
@[simp] theorem tab154:assoc au 154=some ⟨.sl 157,1,24,[.ai]⟩:=rfl
@[simp] theorem tab157:assoc au 157=some ⟨.bw [(0,3),(1,3),(2,3)],3,24,[.int .i64 0,.int .i64 0,.int .i64 0]⟩:=rfl
@[simp] theorem tab173:assoc au 173=some ⟨.func,1,8,[.cd]⟩:=rfl
@[simp] theorem tab185:assoc au 185=some ⟨.bw [(0,108),(1,27),(4,3),(5,4)],6,96,[.bG,.ai,.ai,.ai,.int .i64 0,.bool false]⟩:=rfl
@[simp] theorem tab186:assoc au 186=some ⟨.sl 9,1,24,[.ai]⟩:=rfl
@[simp] theorem tab188:assoc au 188=some ⟨.bw [(0,9),(1,3)],2,24,[.str ⟨#[]⟩,.int .i64 0]⟩:=rfl
@[simp] theorem tab189:assoc au 189=some ⟨.sl 194,1,24,[.ai]⟩:=rfl
@[simp] theorem tab190:assoc au 190=some ⟨.sl 265,1,24,[.ai]⟩:=rfl
@[simp] theorem tab192:assoc au 192=some ⟨.bw [(0,9),(1,189),(2,190)],3,64,[.str ⟨#[]⟩,.ai,.ai]⟩:=rfl
@[simp] theorem tab194:assoc au 194=some ⟨.bw [(0,9),(1,4)],2,24,[.str ⟨#[]⟩,.bool false]⟩:=rfl
@[simp] theorem tab197:assoc au 197=some ⟨.sl 201,1,24,[.ai]⟩:=rfl
@[simp] theorem tab201:assoc au 201=some ⟨.bw [(0,9),(1,3),(2,3)],3,32,[.str ⟨#[]⟩,.int .i64 0,.int .i64 0]⟩:=rfl
@[simp] theorem tab220:assoc au 220=some ⟨.sl 234,1,24,[.ai]⟩:=rfl
@[simp] theorem tab225:assoc au 225=some ⟨.bw [(0,220),(1,3),(2,3),(3,118),(4,3),(5,3)],6,64,[.ai,.int .i64 0,.int .i64 0,.int .i64 0,.int .i64 0,.int .i64 0]⟩:=rfl
@[simp] theorem tab234:assoc au 234=some ⟨.bw [(0,3),(1,9),(2,3),(3,3)],4,40,[.int .i64 0,.str ⟨#[]⟩,.int .i64 0,.int .i64 0]⟩:=rfl
@[simp] theorem tab241:assoc au 241=some ⟨.int .u64,1,8,[.int .u64 0]⟩:=rfl
@[simp] theorem tab242:assoc au 242=some ⟨.Ml,1,8,[.any]⟩:=rfl
@[simp] theorem tab243:assoc au 243=some ⟨.arr 2 3,2,16,[.int .i64 0,.int .i64 0]⟩:=rfl
@[simp] theorem tab247:assoc au 247=some ⟨.bw [(0,32),(1,152),(2,22)],3,72,[.ai,.ai,.ai]⟩:=rfl
@[simp] theorem tab250:assoc au 250=some ⟨.sl 3,1,24,[.ai]⟩:=rfl
@[simp] theorem tab262:assoc au 262=some ⟨.bw [(0,9),(1,78)],2,40,[.str ⟨#[]⟩,.ai]⟩:=rfl
@[simp] theorem tab263:assoc au 263=some ⟨.sl 323,1,24,[.ai]⟩:=rfl
@[simp] theorem tab265:assoc au 265=some ⟨.bw [(0,3),(1,9),(2,80),(6,262),(8,263),(9,190),(10,190)],11,192,[.int .i64 0,.str ⟨#[]⟩,.int .i64 0,.int .i64 0,.str ⟨#[]⟩,.ai,.str ⟨#[]⟩,.ai,.ai,.ai,.ai]⟩:=rfl
@[simp] theorem tab273:assoc au 273=some ⟨.bw [(0,27),(3,197),(4,3),(5,3),(6,3),(7,118),(8,86),(9,22)],10,176,[.ai,.ai,.ai,.ai,.int .i64 0,.int .i64 0,.int .i64 0,.int .i64 0,.ai,.ai]⟩:=rfl
@[simp] theorem tab290:assoc au 290=some ⟨.func,1,8,[.cd]⟩:=rfl
@[simp] theorem tab300:assoc au 300=some ⟨.int .u32,1,4,[.int .u32 0]⟩:=rfl
@[simp] theorem tab302:assoc au 302=some ⟨.int .u64,1,8,[.int .u64 0]⟩:=rfl
@[simp] theorem tab323:assoc au 323=some ⟨.bw [(0,4),(1,262),(3,80)],7,104,[.bool false,.str ⟨#[]⟩,.ai,.int .i64 0,.int .i64 0,.str ⟨#[]⟩,.ai]⟩:=rfl
@[simp] theorem tab343:assoc au 343=some ⟨.int .u64,1,8,[.int .u64 0]⟩:=rfl
@[simp] theorem tab355:assoc au 355=some ⟨.bw [(0,30),(4,90),(6,3),(7,290)],8,128,[.ai,.ai,.ai,.int .i64 0,.int .i64 0,.ai,.int .i64 0,.cd]⟩:=rfl
@[simp] theorem tab373:assoc au 373=some ⟨.bw [],0,0,[]⟩:=rfl
@[simp] theorem tab375:assoc au 375=some ⟨.bw [(0,3)],1,8,[.int .i64 0]⟩:=rfl
@[simp] theorem tab376:assoc au 376=some ⟨.bw [(0,3)],1,8,[.int .i64 0]⟩:=rfl
@[simp] theorem tab377:assoc au 377=some ⟨.bw [],0,0,[]⟩:=rfl
theorem follows:Tryz.prog.follows .mixedOrders=true:=by kernel_rfl
theorem cE (n:Int)(h : -9223372036854775808≤n)(h':n≤9223372036854775807):IntKind.i64.wrap n=n:=IntWalk.i64_in n ⟨h,h'⟩
section
variable {C:Cx}{s:St}{Q:Exit→St→Prop}{x y:Code}{id:Nat}{l:List Oper}{ops:Array Oper}{K:St→Prop}
theorem aj (h:yM au C.nt l.toArray (AN Tryz.prog C l.toArray (thenS (fun s'=>T Tryz.prog C y s' Q) Q .normal)) l s):T Tryz.prog C (.seq (.region id l.toArray false) y) s Q:=T.seq (T.go' ah h)
theorem aU (h:yM au C.nt l.toArray (AN Tryz.prog C l.toArray (thenS (fun s'=>T Tryz.prog C x s' (thenS (fun s'=>T Tryz.prog C y s' Q) Q)) (thenS (fun s'=>T Tryz.prog C y s' Q) Q) .normal)) l s):T Tryz.prog C (.seq (.seq (.region id l.toArray false) x) y) s Q:=T.seq (T.seq (T.go' ah h))
theorem dQ {o:Oper}{c:Call}{g:FuncId}{cs:List CV}{r:CV}(ht:trees cs=true)(hp:ae Tryz.prog g cs r)(h:yM au C.nt ops (AN Tryz.prog C ops K) l (s.put o.dst r))(hd:aZ C.nt o.dst=true:=by simp[hC])(hg:o.guard=none:=by rfl)(ho:o.op=.call c:=by rfl)(Qb:bl s c=some (g,cs):=by rfl):TL Tryz.prog C ops (o::l) s K:=TL.call hd hg ho (bT.of Qb ht hp) (TL.go' ah h)
end
section
variable {C:Cx}{s:St}{Q:Exit→St→Prop}{x y:Code}{c:Operand}{id:Nat}{l:List Oper}
theorem gO (h:Q .normal s)(hc:ev s c=some (.bool false):=by rfl):T Tryz.prog C (.cond c x .skip) s Q:=T.cond (b:=false) hc (T.skip h)
theorem gQ (h:Q .normal s)(hc:ev s c=some (.bool true):=by rfl):T Tryz.prog C (.cond c .skip y) s Q:=T.cond (b:=true) hc (T.skip h)
theorem bh (h:T Tryz.prog C (if false then x else y) s Q)(hc:ev s c=some (.bool false):=by rfl):T Tryz.prog C (.cond c x y) s Q:=T.cond (b:=false) hc h
theorem cgX (h:T Tryz.prog C (if false then x else y) s Q)(hc:ev s c=some (.bool false):=by first | rfl | (simp[ev,assoc];done)):T Tryz.prog C (.cond c x y) s Q:=T.cond (b:=false) hc h
theorem fx (h:T Tryz.prog C (if true then x else y) s Q)(hc:ev s c=some (.bool true):=by rfl):T Tryz.prog C (.cond c x y) s Q:=T.cond (b:=true) hc h
theorem aW (h:yM au C.nt l.toArray (AN Tryz.prog C l.toArray (Q .normal)) l s):T Tryz.prog C (.region id l.toArray false) s Q:=T.go' ah h
theorem dZ {i:Nat}(h:T Tryz.prog C x s (oF i (thenS (fun s'=>T Tryz.prog C y s' Q) Q))):T Tryz.prog C (.seq (.block i x) y) s Q:=T.seq (T.block h)
end
end Go.Proofs.YtnecpnjdonibmaaGreat
namespace Go.Can
mutual
theorem a6 (n:Nat):∀ c:CV,tree c=true→a7 n c=true
 | .bj _ _ _,h=>by simp[tree] at h
 | .av _ _,h=>by simp[tree] at h
 | .iter _ _ _,h=>by simp[tree] at h
 | .mp _ _,h=>by simp[tree] at h
 | .agg cs,h=>by
  simp only[tree] at h;simp only[a7];exact fV n cs h
 | .fn _ cs,h=>by
  simp only[tree] at h;simp only[a7];exact fV n cs h
 | .iface _ cs,h=>by
  simp only[tree] at h;simp only[a7];exact fV n cs h
 | .dH cs,h=>by
  simp only[tree] at h;simp only[a7];exact fV n cs h
 | .int _ _,_=>rfl
 | .bool _,_=>rfl
 | .str _,_=>rfl
 | .az _ _,_=>rfl
 | .ai,_=>rfl
 | .cA _,_=>rfl
 | .bG,_=>rfl
 | .cd,_=>rfl
 | .any,_=>rfl
theorem fV (n:Nat):∀ cs:List CV,trees cs=true→aS n cs=true
 | [],_=>rfl
 | c::cs,h=>by
  simp only[trees,Bool.and_eq_true] at h;simp only[aS,Bool.and_eq_true];exact⟨a6 n c h.1,fV n cs h.2⟩
end
mutual
theorem ln (n:Nat):∀ c:CV,tree c=true→aK n c=true
 | .bj _ _ _,h=>by simp[tree] at h
 | .av _ _,h=>by simp[tree] at h
 | .iter _ _ _,h=>by simp[tree] at h
 | .mp _ _,h=>by simp[tree] at h
 | .agg cs,h=>by
  simp only[tree] at h;simp only[aK];exact iB n cs h
 | .fn _ cs,h=>by
  simp only[tree] at h;simp only[aK];exact iB n cs h
 | .iface _ cs,h=>by
  simp only[tree] at h;simp only[aK];exact iB n cs h
 | .dH cs,h=>by
  simp only[tree] at h;simp only[aK];exact iB n cs h
 | .int _ _,_=>rfl
 | .bool _,_=>rfl
 | .str _,_=>rfl
 | .az _ _,_=>rfl
 | .ai,_=>rfl
 | .cA _,_=>rfl
 | .bG,_=>rfl
 | .cd,_=>rfl
 | .any,_=>rfl
theorem iB (n:Nat):∀ cs:List CV,trees cs=true→dt n cs=true
 | [],_=>rfl
 | c::cs,h=>by
  simp only[trees,Bool.and_eq_true] at h;simp only[dt,Bool.and_eq_true];exact⟨ln n c h.1,iB n cs h.2⟩
end
def cZ (o q:Nat):CV→CV
 | .bj p off n=>.bj (if p=o then q else p) off n
 | .av p off=>.av (if p=o then q else p) off
 | c=>c
def lY (o q:Nat):CV→Bool
 | .bj p _ _=>p != q
 | .av p _=>p != q
 | c=>aK o c && aK q c
def jM (o q:Nat):CV→CV
 | .agg cs=>.agg (cs.map (cZ o q))
 | c=>cZ o q c
def yK (o q:Nat):CV→Bool
 | .agg cs=>cs.all (lY o q)
 | c=>lY o q c
def vM (o q:Nat):List (Nat×CV)→List (Nat×CV)
 | []=>[]
 | (t,c)::r=>(t,jM o q c)::vM o q r
def xH (o q:Nat):List (Nat×Ob)→List (Nat×Ob)
 | []=>[]
 | (k,ob)::r=>(if k=o then q else k,⟨ob.elem,ob.sz,ob.cells.map (cZ o q)⟩)::xH o q r
def okH (o q:Nat):List (Nat×Ob)→Bool
 | []=>true
 | (_,ob)::r=>ob.cells.all (lY o q) && okH o q r
section
variable {P:Program}{C:Cx}{σ:Nat→Option OB}{s:St}{a:Act}{w:World}
theorem GX (o q:Nat)(c:CV):one (cZ o q c)=one c:=by cases c<;>rfl
theorem pT (o q:Nat)(cs:List CV):(cs.map (cZ o q)).all one=cs.all one:=by
 induction cs with
 | nil=>rfl
 | cons c cs ih=>simp only[List.map_cons,List.all_cons,GX,ih]
theorem VR.cZ {F F':Nat→Prop}{σ':Nat→Option OB}{o q:Nat}(hk:ck w w F F')(hq:σ' q=σ o)(P3:∀ p,p≠q→σ' p=σ p){c:CV}{v:Value}(P9:lY o q c=true)(h:VR w F σ c v):VR w F' σ' (cZ o q c) v:=by
 have gen:aK q c=true→VR w F' σ' c v:=fun hn=>VR.bg hk _ _ (fun p hp=>P3 p fun e=>by subst e;rw[hn] at hp;cases hp) h
 cases c with
 | bj p off n=>
  simp only[lY,bne_iff_ne,ne_eq] at P9;simp only[Can.cZ];split
  ·rename_i e;subst e;simp only[VR] at h ⊢;obtain⟨B,h1,h2⟩:=h;exact⟨B,by rw[hq];exact h1,h2⟩
  ·exact gen (by simpa [aK] using P9)
 | av p off=>
  simp only[lY,bne_iff_ne,ne_eq] at P9;simp only[Can.cZ];split
  ·rename_i e;subst e;simp only[VR] at h ⊢;obtain⟨B,b,h1,h2⟩:=h;exact⟨B,b,by rw[hq];exact h1,h2⟩
  ·exact gen (by simpa [aK] using P9)
 | _=>
  simp only[lY,Bool.and_eq_true] at P9;exact gen P9.2
theorem aN.cZ {F F':Nat→Prop}{σ':Nat→Option OB}{o q:Nat}(hk:ck w w F F')(hq:σ' q=σ o)(P3:∀ p,p≠q→σ' p=σ p):∀ {cs:List CV} {vs:List Value},cs.all (lY o q)=true→aN w F σ cs vs→aN w F' σ' (cs.map (Can.cZ o q)) vs
 | [],_,_,h=>h
 | c::cs,_,P9,⟨v,r,e,h1,h2⟩=>by
  simp only[List.all_cons,Bool.and_eq_true] at P9;exact⟨v,r,e,VR.cZ hk hq P3 P9.1 h1,aN.cZ hk hq P3 P9.2 h2⟩
theorem VR.jM {F F':Nat→Prop}{σ':Nat→Option OB}{o q:Nat}(hk:ck w w F F')(hq:σ' q=σ o)(P3:∀ p,p≠q→σ' p=σ p){c:CV}{v:Value}(P9:yK o q c=true)(h:VR w F σ c v):VR w F' σ' (jM o q c) v:=by
 cases c with
 | agg cs=>
  simp only[VR] at h;obtain⟨vs,h1,h2,h3⟩:=h;simp only[Can.jM,VR];exact⟨vs,h1,aN.cZ hk hq P3 P9 h2,by rw[pT];exact h3⟩
 | _=>
  simp only[yK] at P9;simp only[Can.jM];exact VR.cZ hk hq P3 P9 h
theorem qJ (o q:Nat):∀ (e:List (Nat×CV)) (t:Nat) (c:CV),assoc (vM o q e) t=some c→∃ d,assoc e t=some d∧c=Can.jM o q d
 | [],_,_,h=>by simp[vM,assoc] at h
 | (k,d)::r,t,c,h=>by
  simp only[vM,assoc] at h ⊢;split at h
  ·rename_i e;rw[if_pos e];cases h;exact⟨d,rfl,rfl⟩
  ·rename_i e;rw[if_neg e];exact qJ o q r t c h
theorem jy (o q:Nat):∀ (H:List (Nat×Ob)) (p:Nat) (ob:Ob),assoc H q=none→assoc (xH o q H) p=some ob→∃ p' P6,assoc H p'=some P6∧p=(if p'=o then q else p')∧ob=⟨P6.elem,P6.sz,P6.cells.map (Can.cZ o q)⟩
 | [],_,_,_,h=>by simp[xH,assoc] at h
 | (k,x)::r,p,ob,hq,h=>by
  by_cases hkq:k=q
  ·simp[assoc,hkq] at hq
  ·simp only[assoc,if_neg hkq] at hq;by_cases e:(if k=o then q else k)=p
   ·simp only[xH,assoc,if_pos e,Option.some.injEq] at h;exact⟨k,x,by simp[assoc],e.symm,h.symm⟩
   ·simp only[xH,assoc,if_neg e] at h;obtain⟨p',P6,h1,h2,h3⟩:=jy o q r p ob hq h;refine⟨p',P6,?_,h2,h3⟩;simp only[assoc];rw[if_neg fun e'=>e (by rw[h2,e'])];exact h1
theorem G1 (o q:Nat):∀ {H:List (Nat×Ob)},okH o q H=true→∀ p ob,assoc H p=some ob→ob.cells.all (lY o q)=true
 | [],_,p,ob,h=>by simp[assoc] at h
 | (k,x)::r,h,p,ob,hp=>by
  simp only[okH,Bool.and_eq_true] at h;simp only[assoc] at hp;split at hp
  ·cases hp;exact h.1
  ·exact G1 o q h.2 p ob hp
theorem Le.nB (o q:Nat){ob:Ob}(ho:assoc s.heap o=Option.some ob)(hq:assoc s.heap q=Option.none)(hn:C.n0≤q)(hx:q<s.nx)(he:(s.env.all fun x=>yK o q x.2)=true)(hH:okH o q s.heap=true):Le C s ⟨vM o q s.env,xH o q s.heap,s.nx⟩:=by
 intro a w ⟨σ,h⟩;rw[List.all_eq_true] at he;obtain⟨σ',hσ⟩:∃ σ':Nat→Option OB,∀ x,σ' x=if x=q then σ o else σ x:=⟨_,fun _=>rfl⟩
 have s1:σ' q=σ o:=by rw[hσ,if_pos rfl]
 have s2:∀ p,p≠q→σ' p=σ p:=fun p hp=>by rw[hσ,if_neg hp]
 have s3:∀ p,p≠q→σ' (if p=o then q else p)=σ p:=fun p hp=>by
  split
  ·rename_i e;rw[s1,e]
  ·exact s2 p hp
 have UK:∀ p x,assoc s.heap p=some x→p≠q:=fun p x hp e=>by rw[e,hq] at hp;cases hp
 have hF:∀ b,FB C σ' (xH o q s.heap) b→FB C σ s.heap b:=by
  rintro b (hb | ⟨p,x,hp,hb⟩)
  ·exact .inl hb
  ·obtain⟨p',y,h1,h2,h3⟩:=jy o q s.heap p x hq hp;refine .inr ⟨p',y,h1,?_⟩;unfold aT at hb ⊢;rwa [h2,s3 p' (UK p' y h1)] at hb
 have hk:ck w w (FB C σ s.heap) (FB C σ' (xH o q s.heap)):=ck.same hF;refine⟨σ',h.mD,h.tm,h.os,h.tape,h.output,h.size,h.frame,?_,?_,?_,?_,?_,h.low,?_⟩
 ·intro t c hc;obtain⟨d,hd,rfl⟩:=qJ o q s.env t c hc;obtain⟨v,k1,k2⟩:=h.env t d hd;exact⟨v,k1,VR.jM hk s1 s2 (he _ (bp _ _ _ hd)) k2⟩
 ·intro p x hp;obtain⟨p',y,h1,h2,h3⟩:=jy o q s.heap p x hq hp;obtain⟨B,m1,m2,m3,m4,m5⟩:=h.obj p' y h1;subst h3;refine⟨B,by rw[h2,s3 p' (UK p' y h1)];exact m1,m2,fun hb=>by simp[m3 hb],by simp only[pT];exact m4,fun b hb=>?_⟩;obtain⟨cur,n1,n2,n3,n4,n5,n6⟩:=m5 b hb;refine⟨cur,n1,n2,n3,n4,by simpa using n5,?_⟩;simp only[List.length_map];exact aN.cZ hk s1 s2 (G1 o q hH p' y h1) n6
 ·intro p p1 x x1 b hp V7 hb S8;obtain⟨p',y,h1,h2,h3⟩:=jy o q s.heap p x hq hp;obtain⟨YA,y1,g1,g2,g3⟩:=jy o q s.heap p1 x1 hq V7;unfold aT at hb S8;rw[h2,s3 p' (UK p' y h1)] at hb;rw[g2,s3 YA (UK YA y1 g1)] at S8;have:=h.inj p' YA y y1 b h1 g1 hb S8;rw[h2,g2,this]
 ·intro p hp;simp only at hp;rw[s2 p yA];exact h.nx p hp
 ·intro p hp;rw[s2 p yA];exact h.gy p hp
 ·intro p B b hp hB hb;by_cases e:p=q
  ·subst e;rw[s1] at hB;obtain⟨B',m1,_,_,_,m5⟩:=h.obj o ob ho;rw[m1] at hB;cases hB;obtain⟨cur,_,_,_,n4,_⟩:=m5 b hb;exact n4
  ·rw[s2 p e] at hB;exact h.new p B b hp hB hb
@[simp] theorem ren1_int (o q:Nat)(k:IntKind)(n:Int):cZ o q (.int k n)=(.int k n):=rfl
@[simp] theorem ok1_int (o q:Nat)(k:IntKind)(n:Int):lY o q (.int k n)=(aK o (.int k n) && aK q (.int k n)):=rfl
@[simp] theorem renC_int (o q:Nat)(k:IntKind)(n:Int):jM o q (.int k n)=(.int k n):=rfl
@[simp] theorem okC_int (o q:Nat)(k:IntKind)(n:Int):yK o q (.int k n)=(aK o (.int k n) && aK q (.int k n)):=rfl
@[simp] theorem NO (o q:Nat)(b:Bool):cZ o q (.bool b)=(.bool b):=rfl
@[simp] theorem ok1_bool (o q:Nat)(b:Bool):lY o q (.bool b)=(aK o (.bool b) && aK q (.bool b)):=rfl
@[simp] theorem NK (o q:Nat)(b:Bool):jM o q (.bool b)=(.bool b):=rfl
@[simp] theorem okC_bool (o q:Nat)(b:Bool):yK o q (.bool b)=(aK o (.bool b) && aK q (.bool b)):=rfl
@[simp] theorem ren1_str (o q:Nat)(s:ByteArray):cZ o q (.str s)=(.str s):=rfl
@[simp] theorem ok1_str (o q:Nat)(s:ByteArray):lY o q (.str s)=(aK o (.str s) && aK q (.str s)):=rfl
@[simp] theorem renC_str (o q:Nat)(s:ByteArray):jM o q (.str s)=(.str s):=rfl
@[simp] theorem okC_str (o q:Nat)(s:ByteArray):yK o q (.str s)=(aK o (.str s) && aK q (.str s)):=rfl
@[simp] theorem ren1_agg (o q:Nat)(cs:List CV):cZ o q (.agg cs)=(.agg cs):=rfl
@[simp] theorem ok1_agg (o q:Nat)(cs:List CV):lY o q (.agg cs)=(aK o (.agg cs) && aK q (.agg cs)):=rfl
@[simp] theorem renC_agg (o q:Nat)(cs:List CV):jM o q (.agg cs)=.agg (cs.map (cZ o q)):=rfl
@[simp] theorem okC_agg (o q:Nat)(cs:List CV):yK o q (.agg cs)=cs.all (lY o q):=rfl
@[simp] theorem ren1_tsl (o q:Nat)(cs:List CV)(n:Nat):cZ o q (.az cs n)=(.az cs n):=rfl
@[simp] theorem ok1_tsl (o q:Nat)(cs:List CV)(n:Nat):lY o q (.az cs n)=(aK o (.az cs n) && aK q (.az cs n)):=rfl
@[simp] theorem renC_tsl (o q:Nat)(cs:List CV)(n:Nat):jM o q (.az cs n)=(.az cs n):=rfl
@[simp] theorem okC_tsl (o q:Nat)(cs:List CV)(n:Nat):yK o q (.az cs n)=(aK o (.az cs n) && aK q (.az cs n)):=rfl
@[simp] theorem L5 (o q:Nat)  : cZ o q .ai=.ai:=rfl
@[simp] theorem NV (o q:Nat)  : lY o q .ai=(aK o .ai && aK q .ai):=rfl
@[simp] theorem L2 (o q:Nat)  : jM o q .ai=.ai:=rfl
@[simp] theorem NR (o q:Nat)  : yK o q .ai=(aK o .ai && aK q .ai):=rfl
@[simp] theorem NL (o q:Nat)(cs:List CV):cZ o q (.cA cs)=(.cA cs):=rfl
@[simp] theorem ok1_tptr (o q:Nat)(cs:List CV):lY o q (.cA cs)=(aK o (.cA cs) && aK q (.cA cs)):=rfl
@[simp] theorem NH (o q:Nat)(cs:List CV):jM o q (.cA cs)=(.cA cs):=rfl
@[simp] theorem okC_tptr (o q:Nat)(cs:List CV):yK o q (.cA cs)=(aK o (.cA cs) && aK q (.cA cs)):=rfl
@[simp] theorem KP (o q:Nat)  : cZ o q .bG=.bG:=rfl
@[simp] theorem Mr (o q:Nat)  : lY o q .bG=(aK o .bG && aK q .bG):=rfl
@[simp] theorem KO (o q:Nat)  : jM o q .bG=.bG:=rfl
@[simp] theorem Mq (o q:Nat)  : yK o q .bG=(aK o .bG && aK q .bG):=rfl
@[simp] theorem ren1_fn (o q:Nat)(f:FuncId)(cs:List CV):cZ o q (.fn f cs)=(.fn f cs):=rfl
@[simp] theorem ok1_fn (o q:Nat)(f:FuncId)(cs:List CV):lY o q (.fn f cs)=(aK o (.fn f cs) && aK q (.fn f cs)):=rfl
@[simp] theorem renC_fn (o q:Nat)(f:FuncId)(cs:List CV):jM o q (.fn f cs)=(.fn f cs):=rfl
@[simp] theorem okC_fn (o q:Nat)(f:FuncId)(cs:List CV):yK o q (.fn f cs)=(aK o (.fn f cs) && aK q (.fn f cs)):=rfl
@[simp] theorem L6 (o q:Nat)  : cZ o q .cd=.cd:=rfl
@[simp] theorem NW (o q:Nat)  : lY o q .cd=(aK o .cd && aK q .cd):=rfl
@[simp] theorem L3 (o q:Nat)  : jM o q .cd=.cd:=rfl
@[simp] theorem NT (o q:Nat)  : yK o q .cd=(aK o .cd && aK q .cd):=rfl
@[simp] theorem L7 (o q:Nat)(t:TypeId)(cs:List CV):cZ o q (.iface t cs)=(.iface t cs):=rfl
@[simp] theorem NX (o q:Nat)(t:TypeId)(cs:List CV):lY o q (.iface t cs)=(aK o (.iface t cs) && aK q (.iface t cs)):=rfl
@[simp] theorem L4 (o q:Nat)(t:TypeId)(cs:List CV):jM o q (.iface t cs)=(.iface t cs):=rfl
@[simp] theorem NU (o q:Nat)(t:TypeId)(cs:List CV):yK o q (.iface t cs)=(aK o (.iface t cs) && aK q (.iface t cs)):=rfl
@[simp] theorem ren1_tup (o q:Nat)(cs:List CV):cZ o q (.dH cs)=(.dH cs):=rfl
@[simp] theorem ok1_tup (o q:Nat)(cs:List CV):lY o q (.dH cs)=(aK o (.dH cs) && aK q (.dH cs)):=rfl
@[simp] theorem renC_tup (o q:Nat)(cs:List CV):jM o q (.dH cs)=(.dH cs):=rfl
@[simp] theorem okC_tup (o q:Nat)(cs:List CV):yK o q (.dH cs)=(aK o (.dH cs) && aK q (.dH cs)):=rfl
@[simp] theorem ren1_osl (o q:Nat)(p f n:Nat):cZ o q (.bj p f n)=.bj (if p=o then q else p) f n:=rfl
@[simp] theorem ok1_osl (o q:Nat)(p f n:Nat):lY o q (.bj p f n)=(p != q):=rfl
@[simp] theorem renC_osl (o q:Nat)(p f n:Nat):jM o q (.bj p f n)=.bj (if p=o then q else p) f n:=rfl
@[simp] theorem okC_osl (o q:Nat)(p f n:Nat):yK o q (.bj p f n)=(p != q):=rfl
@[simp] theorem NM (o q:Nat)(p f:Nat):cZ o q (.av p f)=.av (if p=o then q else p) f:=rfl
@[simp] theorem ok1_optr (o q:Nat)(p f:Nat):lY o q (.av p f)=(p != q):=rfl
@[simp] theorem NJ (o q:Nat)(p f:Nat):jM o q (.av p f)=.av (if p=o then q else p) f:=rfl
@[simp] theorem okC_optr (o q:Nat)(p f:Nat):yK o q (.av p f)=(p != q):=rfl
@[simp] theorem ren1_any (o q:Nat)  : cZ o q .any=.any:=rfl
@[simp] theorem ok1_any (o q:Nat)  : lY o q .any=(aK o .any && aK q .any):=rfl
@[simp] theorem renC_any (o q:Nat)  : jM o q .any=.any:=rfl
@[simp] theorem okC_any (o q:Nat)  : yK o q .any=(aK o .any && aK q .any):=rfl
attribute [simp] vM xH okH
end
theorem bS {α:Type}{f:α→List CV}{n:Nat}(hf:∀ x,(f x).length=n){m:List α}{i:Nat}{e:α}(h:m[i]? = some e)(k:Nat)(hk:k≤n):(m.flatMap f).drop (i*n+k)=(f e).drop k++(m.drop (i+1)).flatMap f:=by
 rw[← List.drop_drop,aO hf h,List.drop_append_of_le_length (by rw[hf];exact hk)]
theorem pa (o q:Nat)(c:CV)(h:tree c=true):lY o q c=true:=by
 cases c<;>first | (simp[tree] at h;done) | (simp only[lY,Bool.and_eq_true];exact⟨ln _ _ h,ln _ _ h⟩)
theorem D7 (o q:Nat)(c:CV)(h:tree c=true):cZ o q c=c:=by
 cases c<;>first | (simp[tree] at h;done) | rfl
theorem gX {cs:List CV}(h:trees cs=true):∀ c∈cs,tree c=true:=by
 induction cs with
 | nil=>simp
 | cons c cs ih=>
  simp only[trees,Bool.and_eq_true] at h;intro x hx;rcases List.mem_cons.1 hx with rfl | hx
  ·exact h.1
  ·exact ih h.2 x hx
theorem af {cs:List CV}(h:trees cs=true)(n:Nat):cs.all (a7 n)=true:=List.all_eq_true.2 fun c hc=>a6 n c (gX h c hc)
theorem bf {cs:List CV}(h:trees cs=true)(o q:Nat):cs.all (lY o q)=true:=List.all_eq_true.2 fun c hc=>pa o q c (gX h c hc)
theorem aV {cs:List CV}(h:trees cs=true)(o q:Nat):cs.map (cZ o q)=cs:=by
 have:∀ c∈cs,cZ o q c=id c:=fun c hc=>D7 o q c (gX h c hc);rw[List.map_congr_left this,List.map_id]
end Go.Can
