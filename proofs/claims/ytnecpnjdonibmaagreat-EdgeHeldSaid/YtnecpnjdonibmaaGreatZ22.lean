/- The types of this program that the walks ask for. -/
import Derived.Test.YtnecpnjdonibmaaGreatZ21
import Derived.Test.YtnecpnjdonibmaaGreatProg
import Derived.KernelRfl
namespace Go.Proofs.YtnecpnjdonibmaaGreat
open Go.Can
def ak:List (Nat×TI):=[
 (2,⟨.int .i64,1,8,[.int .i64 0]⟩),
 (3,⟨.int .i64,1,8,[.int .i64 0]⟩),
 (4,⟨.bool,1,1,[.bool false]⟩),
 (5,⟨.int .u8,1,1,[.int .u8 0]⟩),
 (9,⟨.str,1,16,[.str ⟨#[]⟩]⟩),
 (22,⟨.sl 3,1,24,[.aa]⟩),
 (23,⟨.sl 188,1,24,[.aa]⟩),
 (24,⟨.sl 93,1,24,[.aa]⟩),
 (25,⟨.sl 192,1,24,[.aa]⟩),
 (27,⟨.bw [(0,23),(1,24),(2,25)],3,72,[.aa,.aa,.aa]⟩),
 (28,⟨.sl 88,1,24,[.aa]⟩),
 (30,⟨.bw [(0,22),(1,24),(2,28),(3,3)],4,80,[.aa,.aa,.aa,.int .i64 0]⟩),
 (31,⟨.sl 90,1,24,[.aa]⟩),
 (32,⟨.sl 22,1,24,[.aa]⟩),
 (34,⟨.bw [(0,31),(1,32),(2,22)],3,72,[.aa,.aa,.aa]⟩),
 (67,⟨.sl 76,1,24,[.aa]⟩),
 (76,⟨.bw [(0,3),(1,3),(2,3),(3,3)],4,32,[.int .i64 0,.int .i64 0,.int .i64 0,.int .i64 0]⟩),
 (78,⟨.sl 80,1,24,[.aa]⟩),
 (80,⟨.bw [(0,3),(1,3),(2,9),(3,78)],4,56,[.int .i64 0,.int .i64 0,.str ⟨#[]⟩,.aa]⟩),
 (82,⟨.bw [(0,4),(1,3),(2,78)],3,40,[.bool false,.int .i64 0,.aa]⟩),
 (83,⟨.sl 82,1,24,[.aa]⟩),
 (85,⟨.bw [(0,3),(1,3),(2,4),(3,80),(7,82),(10,78),(11,83)],12,168,[.int .i64 0,.int .i64 0,.bool false,.int .i64 0,.int .i64 0,.str ⟨#[]⟩,.aa,.bool false,.int .i64 0,.aa,.aa,.aa]⟩),
 (86,⟨.sl 85,1,24,[.aa]⟩),
 (88,⟨.bw [(0,9),(1,3),(2,3),(3,3),(4,86)],5,64,[.str ⟨#[]⟩,.int .i64 0,.int .i64 0,.int .i64 0,.aa]⟩),
 (90,⟨.bw [(0,3),(1,22)],2,32,[.int .i64 0,.aa]⟩),
 (93,⟨.bw [(0,9),(1,4),(2,3)],3,32,[.str ⟨#[]⟩,.bool false,.int .i64 0]⟩),
 (108,⟨.ptr 110,1,8,[.bL]⟩),
 (110,⟨.bw [(0,22),(1,3)],2,32,[.aa,.int .i64 0]⟩),
 (118,⟨.int .i64,1,8,[.int .i64 0]⟩),
 (145,⟨.sl 5,1,24,[.aa]⟩),
 (152,⟨.sl 32,1,24,[.aa]⟩),
 (154,⟨.sl 157,1,24,[.aa]⟩),
 (157,⟨.bw [(0,3),(1,3),(2,3)],3,24,[.int .i64 0,.int .i64 0,.int .i64 0]⟩),
 (185,⟨.bw [(0,108),(1,27),(4,3),(5,4)],6,96,[.bL,.aa,.aa,.aa,.int .i64 0,.bool false]⟩),
 (186,⟨.sl 9,1,24,[.aa]⟩),
 (188,⟨.bw [(0,9),(1,3)],2,24,[.str ⟨#[]⟩,.int .i64 0]⟩),
 (189,⟨.sl 194,1,24,[.aa]⟩),
 (190,⟨.sl 265,1,24,[.aa]⟩),
 (192,⟨.bw [(0,9),(1,189),(2,190)],3,64,[.str ⟨#[]⟩,.aa,.aa]⟩),
 (194,⟨.bw [(0,9),(1,4)],2,24,[.str ⟨#[]⟩,.bool false]⟩),
 (197,⟨.sl 201,1,24,[.aa]⟩),
 (201,⟨.bw [(0,9),(1,3),(2,3)],3,32,[.str ⟨#[]⟩,.int .i64 0,.int .i64 0]⟩),
 (220,⟨.sl 234,1,24,[.aa]⟩),
 (225,⟨.bw [(0,220),(1,3),(2,3),(3,118),(4,3),(5,3)],6,64,[.aa,.int .i64 0,.int .i64 0,.int .i64 0,.int .i64 0,.int .i64 0]⟩),
 (234,⟨.bw [(0,3),(1,9),(2,3),(3,3)],4,40,[.int .i64 0,.str ⟨#[]⟩,.int .i64 0,.int .i64 0]⟩),
 (241,⟨.int .u64,1,8,[.int .u64 0]⟩),
 (242,⟨.MR,1,8,[.any]⟩),
 (243,⟨.arr 2 3,2,16,[.int .i64 0,.int .i64 0]⟩),
 (247,⟨.bw [(0,32),(1,152),(2,22)],3,72,[.aa,.aa,.aa]⟩),
 (250,⟨.sl 3,1,24,[.aa]⟩),
 (262,⟨.bw [(0,9),(1,78)],2,40,[.str ⟨#[]⟩,.aa]⟩),
 (263,⟨.sl 323,1,24,[.aa]⟩),
 (265,⟨.bw [(0,3),(1,9),(2,80),(6,262),(8,263),(9,190),(10,190)],11,192,[.int .i64 0,.str ⟨#[]⟩,.int .i64 0,.int .i64 0,.str ⟨#[]⟩,.aa,.str ⟨#[]⟩,.aa,.aa,.aa,.aa]⟩),
 (273,⟨.bw [(0,27),(3,197),(4,3),(5,3),(6,3),(7,118),(8,86),(9,22)],10,176,[.aa,.aa,.aa,.aa,.int .i64 0,.int .i64 0,.int .i64 0,.int .i64 0,.aa,.aa]⟩),
 (290,⟨.func,1,8,[.cA]⟩),
 (300,⟨.int .u32,1,4,[.int .u32 0]⟩),
 (302,⟨.int .u64,1,8,[.int .u64 0]⟩),
 (323,⟨.bw [(0,4),(1,262),(3,80)],7,104,[.bool false,.str ⟨#[]⟩,.aa,.int .i64 0,.int .i64 0,.str ⟨#[]⟩,.aa]⟩),
 (355,⟨.bw [(0,30),(4,90),(6,3),(7,290)],8,128,[.aa,.aa,.aa,.int .i64 0,.int .i64 0,.aa,.int .i64 0,.cA]⟩),
 (373,⟨.bw [],0,0,[]⟩),
 (375,⟨.bw [(0,3)],1,8,[.int .i64 0]⟩),
 (376,⟨.bw [(0,3)],1,8,[.int .i64 0]⟩),
 (377,⟨.bw [],0,0,[]⟩)]
theorem ai:aG Tryz.prog ak:=
 aG.cons (cu.mk' OV OV rfl) <|
 aG.cons (cu.mk' OV OV rfl) <|
 aG.cons (cu.mk' OV OV rfl) <|
 aG.cons (cu.mk' OV OV rfl) <|
 aG.cons (cu.mk' OV OV rfl) <|
 aG.cons (cu.mk' OV OV rfl) <|
 aG.cons (cu.mk' OV OV rfl) <|
 aG.cons (cu.mk' OV OV rfl) <|
 aG.cons (cu.mk' OV OV rfl) <|
 aG.cons (cu.mk' OV OV rfl) <|
 aG.cons (cu.mk' OV OV rfl) <|
 aG.cons (cu.mk' OV OV rfl) <|
 aG.cons (cu.mk' OV OV rfl) <|
 aG.cons (cu.mk' OV OV rfl) <|
 aG.cons (cu.mk' OV OV rfl) <|
 aG.cons (cu.mk' OV OV rfl) <|
 aG.cons (cu.mk' OV OV rfl) <|
 aG.cons (cu.mk' OV OV rfl) <|
 aG.cons (cu.mk' OV OV rfl) <|
 aG.cons (cu.mk' OV OV rfl) <|
 aG.cons (cu.mk' OV OV rfl) <|
 aG.cons (cu.mk' OV OV rfl) <|
 aG.cons (cu.mk' OV OV rfl) <|
 aG.cons (cu.mk' OV OV rfl) <|
 aG.cons (cu.mk' OV OV rfl) <|
 aG.cons (cu.mk' OV OV rfl) <|
 aG.cons (cu.mk' OV OV rfl) <|
 aG.cons (cu.mk' OV OV rfl) <|
 aG.cons (cu.mk' OV OV rfl) <|
 aG.cons (cu.mk' OV OV rfl) <|
 aG.cons (cu.mk' OV OV rfl) <|
 aG.cons (cu.mk' OV OV rfl) <|
 aG.cons (cu.mk' OV OV rfl) <|
 aG.cons (cu.mk' OV OV rfl) <|
 aG.cons (cu.mk' OV OV rfl) <|
 aG.cons (cu.mk' OV OV rfl) <|
 aG.cons (cu.mk' OV OV rfl) <|
 aG.cons (cu.mk' OV OV rfl) <|
 aG.cons (cu.mk' OV OV rfl) <|
 aG.cons (cu.mk' OV OV rfl) <|
 aG.cons (cu.mk' OV OV rfl) <|
 aG.cons (cu.mk' OV OV rfl) <|
 aG.cons (cu.mk' OV OV rfl) <|
 aG.cons (cu.mk' OV OV rfl) <|
 aG.cons (cu.mk' OV OV rfl) <|
 aG.cons (cu.mk' OV OV rfl) <|
 aG.cons (cu.mk' OV OV rfl) <|
 aG.cons (cu.mk' OV OV rfl) <|
 aG.cons (cu.mk' OV OV rfl) <|
 aG.cons (cu.mk' OV OV rfl) <|
 aG.cons (cu.mk' OV OV rfl) <|
 aG.cons (cu.mk' OV OV rfl) <|
 aG.cons (cu.mk' OV OV rfl) <|
 aG.cons (cu.mk' OV OV rfl) <|
 aG.cons (cu.mk' OV OV rfl) <|
 aG.cons (cu.mk' OV OV rfl) <|
 aG.cons (cu.mk' OV OV rfl) <|
 aG.cons (cu.mk' OV OV rfl) <|
 aG.cons (cu.mk' OV OV rfl) <|
 aG.cons (cu.mk' OV OV rfl) <|
 aG.cons (cu.mk' OV OV rfl) <|
 aG.cons (cu.mk' OV OV rfl) <|
 aG.cons (cu.mk' OV OV rfl) <| aG.nil
@[simp] theorem tab2:assoc ak 2=some ⟨.int .i64,1,8,[.int .i64 0]⟩:=rfl
@[simp] theorem tab3:assoc ak 3=some ⟨.int .i64,1,8,[.int .i64 0]⟩:=rfl
@[simp] theorem tab4:assoc ak 4=some ⟨.bool,1,1,[.bool false]⟩:=rfl
@[simp] theorem tab5:assoc ak 5=some ⟨.int .u8,1,1,[.int .u8 0]⟩:=rfl
@[simp] theorem tab9:assoc ak 9=some ⟨.str,1,16,[.str ⟨#[]⟩]⟩:=rfl
@[simp] theorem tab22:assoc ak 22=some ⟨.sl 3,1,24,[.aa]⟩:=rfl
@[simp] theorem tab23:assoc ak 23=some ⟨.sl 188,1,24,[.aa]⟩:=rfl
@[simp] theorem tab24:assoc ak 24=some ⟨.sl 93,1,24,[.aa]⟩:=rfl
@[simp] theorem tab25:assoc ak 25=some ⟨.sl 192,1,24,[.aa]⟩:=rfl
@[simp] theorem tab27:assoc ak 27=some ⟨.bw [(0,23),(1,24),(2,25)],3,72,[.aa,.aa,.aa]⟩:=rfl
@[simp] theorem tab28:assoc ak 28=some ⟨.sl 88,1,24,[.aa]⟩:=rfl
@[simp] theorem tab30:assoc ak 30=some ⟨.bw [(0,22),(1,24),(2,28),(3,3)],4,80,[.aa,.aa,.aa,.int .i64 0]⟩:=rfl
@[simp] theorem tab31:assoc ak 31=some ⟨.sl 90,1,24,[.aa]⟩:=rfl
@[simp] theorem tab32:assoc ak 32=some ⟨.sl 22,1,24,[.aa]⟩:=rfl
@[simp] theorem tab34:assoc ak 34=some ⟨.bw [(0,31),(1,32),(2,22)],3,72,[.aa,.aa,.aa]⟩:=rfl
@[simp] theorem tab67:assoc ak 67=some ⟨.sl 76,1,24,[.aa]⟩:=rfl
@[simp] theorem tab76:assoc ak 76=some ⟨.bw [(0,3),(1,3),(2,3),(3,3)],4,32,[.int .i64 0,.int .i64 0,.int .i64 0,.int .i64 0]⟩:=rfl
@[simp] theorem tab78:assoc ak 78=some ⟨.sl 80,1,24,[.aa]⟩:=rfl
@[simp] theorem tab80:assoc ak 80=some ⟨.bw [(0,3),(1,3),(2,9),(3,78)],4,56,[.int .i64 0,.int .i64 0,.str ⟨#[]⟩,.aa]⟩:=rfl
@[simp] theorem tab82:assoc ak 82=some ⟨.bw [(0,4),(1,3),(2,78)],3,40,[.bool false,.int .i64 0,.aa]⟩:=rfl
@[simp] theorem tab83:assoc ak 83=some ⟨.sl 82,1,24,[.aa]⟩:=rfl
@[simp] theorem tab85:assoc ak 85=some ⟨.bw [(0,3),(1,3),(2,4),(3,80),(7,82),(10,78),(11,83)],12,168,[.int .i64 0,.int .i64 0,.bool false,.int .i64 0,.int .i64 0,.str ⟨#[]⟩,.aa,.bool false,.int .i64 0,.aa,.aa,.aa]⟩:=rfl
@[simp] theorem tab86:assoc ak 86=some ⟨.sl 85,1,24,[.aa]⟩:=rfl
@[simp] theorem tab88:assoc ak 88=some ⟨.bw [(0,9),(1,3),(2,3),(3,3),(4,86)],5,64,[.str ⟨#[]⟩,.int .i64 0,.int .i64 0,.int .i64 0,.aa]⟩:=rfl
@[simp] theorem tab90:assoc ak 90=some ⟨.bw [(0,3),(1,22)],2,32,[.int .i64 0,.aa]⟩:=rfl
@[simp] theorem tab93:assoc ak 93=some ⟨.bw [(0,9),(1,4),(2,3)],3,32,[.str ⟨#[]⟩,.bool false,.int .i64 0]⟩:=rfl
@[simp] theorem tab108:assoc ak 108=some ⟨.ptr 110,1,8,[.bL]⟩:=rfl
@[simp] theorem tab110:assoc ak 110=some ⟨.bw [(0,22),(1,3)],2,32,[.aa,.int .i64 0]⟩:=rfl
@[simp] theorem tab118:assoc ak 118=some ⟨.int .i64,1,8,[.int .i64 0]⟩:=rfl
@[simp] theorem tab145:assoc ak 145=some ⟨.sl 5,1,24,[.aa]⟩:=rfl
@[simp] theorem tab152:assoc ak 152=some ⟨.sl 32,1,24,[.aa]⟩:=rfl
@[simp] theorem tab154:assoc ak 154=some ⟨.sl 157,1,24,[.aa]⟩:=rfl
@[simp] theorem tab157:assoc ak 157=some ⟨.bw [(0,3),(1,3),(2,3)],3,24,[.int .i64 0,.int .i64 0,.int .i64 0]⟩:=rfl
@[simp] theorem tab185:assoc ak 185=some ⟨.bw [(0,108),(1,27),(4,3),(5,4)],6,96,[.bL,.aa,.aa,.aa,.int .i64 0,.bool false]⟩:=rfl
@[simp] theorem tab186:assoc ak 186=some ⟨.sl 9,1,24,[.aa]⟩:=rfl
@[simp] theorem tab188:assoc ak 188=some ⟨.bw [(0,9),(1,3)],2,24,[.str ⟨#[]⟩,.int .i64 0]⟩:=rfl
@[simp] theorem tab189:assoc ak 189=some ⟨.sl 194,1,24,[.aa]⟩:=rfl
@[simp] theorem tab190:assoc ak 190=some ⟨.sl 265,1,24,[.aa]⟩:=rfl
@[simp] theorem tab192:assoc ak 192=some ⟨.bw [(0,9),(1,189),(2,190)],3,64,[.str ⟨#[]⟩,.aa,.aa]⟩:=rfl
@[simp] theorem tab194:assoc ak 194=some ⟨.bw [(0,9),(1,4)],2,24,[.str ⟨#[]⟩,.bool false]⟩:=rfl
@[simp] theorem tab197:assoc ak 197=some ⟨.sl 201,1,24,[.aa]⟩:=rfl
@[simp] theorem tab201:assoc ak 201=some ⟨.bw [(0,9),(1,3),(2,3)],3,32,[.str ⟨#[]⟩,.int .i64 0,.int .i64 0]⟩:=rfl
@[simp] theorem tab220:assoc ak 220=some ⟨.sl 234,1,24,[.aa]⟩:=rfl
@[simp] theorem tab225:assoc ak 225=some ⟨.bw [(0,220),(1,3),(2,3),(3,118),(4,3),(5,3)],6,64,[.aa,.int .i64 0,.int .i64 0,.int .i64 0,.int .i64 0,.int .i64 0]⟩:=rfl
@[simp] theorem tab234:assoc ak 234=some ⟨.bw [(0,3),(1,9),(2,3),(3,3)],4,40,[.int .i64 0,.str ⟨#[]⟩,.int .i64 0,.int .i64 0]⟩:=rfl
@[simp] theorem tab241:assoc ak 241=some ⟨.int .u64,1,8,[.int .u64 0]⟩:=rfl
@[simp] theorem tab242:assoc ak 242=some ⟨.MR,1,8,[.any]⟩:=rfl
@[simp] theorem tab243:assoc ak 243=some ⟨.arr 2 3,2,16,[.int .i64 0,.int .i64 0]⟩:=rfl
@[simp] theorem tab247:assoc ak 247=some ⟨.bw [(0,32),(1,152),(2,22)],3,72,[.aa,.aa,.aa]⟩:=rfl
@[simp] theorem tab250:assoc ak 250=some ⟨.sl 3,1,24,[.aa]⟩:=rfl
@[simp] theorem tab262:assoc ak 262=some ⟨.bw [(0,9),(1,78)],2,40,[.str ⟨#[]⟩,.aa]⟩:=rfl
@[simp] theorem tab263:assoc ak 263=some ⟨.sl 323,1,24,[.aa]⟩:=rfl
@[simp] theorem tab265:assoc ak 265=some ⟨.bw [(0,3),(1,9),(2,80),(6,262),(8,263),(9,190),(10,190)],11,192,[.int .i64 0,.str ⟨#[]⟩,.int .i64 0,.int .i64 0,.str ⟨#[]⟩,.aa,.str ⟨#[]⟩,.aa,.aa,.aa,.aa]⟩:=rfl
@[simp] theorem tab273:assoc ak 273=some ⟨.bw [(0,27),(3,197),(4,3),(5,3),(6,3),(7,118),(8,86),(9,22)],10,176,[.aa,.aa,.aa,.aa,.int .i64 0,.int .i64 0,.int .i64 0,.int .i64 0,.aa,.aa]⟩:=rfl
@[simp] theorem tab290:assoc ak 290=some ⟨.func,1,8,[.cA]⟩:=rfl
@[simp] theorem tab300:assoc ak 300=some ⟨.int .u32,1,4,[.int .u32 0]⟩:=rfl
@[simp] theorem tab302:assoc ak 302=some ⟨.int .u64,1,8,[.int .u64 0]⟩:=rfl
@[simp] theorem tab323:assoc ak 323=some ⟨.bw [(0,4),(1,262),(3,80)],7,104,[.bool false,.str ⟨#[]⟩,.aa,.int .i64 0,.int .i64 0,.str ⟨#[]⟩,.aa]⟩:=rfl
@[simp] theorem tab355:assoc ak 355=some ⟨.bw [(0,30),(4,90),(6,3),(7,290)],8,128,[.aa,.aa,.aa,.int .i64 0,.int .i64 0,.aa,.int .i64 0,.cA]⟩:=rfl
@[simp] theorem tab373:assoc ak 373=some ⟨.bw [],0,0,[]⟩:=rfl
@[simp] theorem tab375:assoc ak 375=some ⟨.bw [(0,3)],1,8,[.int .i64 0]⟩:=rfl
@[simp] theorem tab376:assoc ak 376=some ⟨.bw [(0,3)],1,8,[.int .i64 0]⟩:=rfl
@[simp] theorem tab377:assoc ak 377=some ⟨.bw [],0,0,[]⟩:=rfl
theorem follows:Tryz.prog.follows .mixedOrders=true:=by kernel_rfl
theorem cC (n:Int)(h : -9223372036854775808≤n)(h':n≤9223372036854775807):IntKind.i64.wrap n=n:=IntWalk.i64_in n ⟨h,h'⟩
section
variable {C:Cx}{s:St}{Q:Exit→St→Prop}{x y:Code}{id:Nat}{l:List Oper}{ops:Array Oper}{K:St→Prop}
theorem aq (h:z7 ak C.nt l.toArray (BW Tryz.prog C l.toArray (eU (fun s'=>T Tryz.prog C y s' Q) Q .normal)) l s):T Tryz.prog C (.seq (.region id l.toArray false) y) s Q:=T.seq (T.go' ai h)
theorem aO (h:z7 ak C.nt l.toArray (BW Tryz.prog C l.toArray (eU (fun s'=>T Tryz.prog C x s' (eU (fun s'=>T Tryz.prog C y s' Q) Q)) (eU (fun s'=>T Tryz.prog C y s' Q) Q) .normal)) l s):T Tryz.prog C (.seq (.seq (.region id l.toArray false) x) y) s Q:=T.seq (T.seq (T.go' ai h))
theorem dz {o:Oper}{c:Call}{g:FuncId}{cs:List CV}{r:CV}(ht:trees cs=true)(hp:af Tryz.prog g cs r)(h:z7 ak C.nt ops (BW Tryz.prog C ops K) l (s.put o.dst r))(hd:a6 C.nt o.dst=true:=by simp[hC])(hg:o.guard=none:=by rfl)(ho:o.op=.call c:=by rfl)(Ps:bm s c=some (g,cs):=by rfl):TL Tryz.prog C ops (o::l) s K:=TL.call hd hg ho (bN.of Ps ht hp) (TL.go' ai h)
end
section
variable {C:Cx}{s:St}{Q:Exit→St→Prop}{x y:Code}{c:Operand}{id:Nat}{l:List Oper}
theorem gw (h:Q .normal s)(hc:ev s c=some (.bool false):=by rfl):T Tryz.prog C (.cond c x .skip) s Q:=T.cond (b:=false) hc (T.skip h)
theorem fB (h:Q .normal s)(hc:ev s c=some (.bool true):=by rfl):T Tryz.prog C (.cond c .skip y) s Q:=T.cond (b:=true) hc (T.skip h)
theorem a7 (h:T Tryz.prog C (if false then x else y) s Q)(hc:ev s c=some (.bool false):=by rfl):T Tryz.prog C (.cond c x y) s Q:=T.cond (b:=false) hc h
theorem cgX (h:T Tryz.prog C (if false then x else y) s Q)(hc:ev s c=some (.bool false):=by first | rfl | (simp[ev,assoc];done)):T Tryz.prog C (.cond c x y) s Q:=T.cond (b:=false) hc h
theorem fE (h:T Tryz.prog C (if true then x else y) s Q)(hc:ev s c=some (.bool true):=by rfl):T Tryz.prog C (.cond c x y) s Q:=T.cond (b:=true) hc h
theorem aV (h:z7 ak C.nt l.toArray (BW Tryz.prog C l.toArray (Q .normal)) l s):T Tryz.prog C (.region id l.toArray false) s Q:=T.go' ai h
theorem ed {i:Nat}(h:T Tryz.prog C x s (og i (eU (fun s'=>T Tryz.prog C y s' Q) Q))):T Tryz.prog C (.seq (.block i x) y) s Q:=T.seq (T.block h)
end
end Go.Proofs.YtnecpnjdonibmaaGreat
namespace Go.Can
mutual
theorem aW (n:Nat):∀ c:CV,tree c=true→a9 n c=true
 | .bl _ _ _,h=>by simp[tree] at h
 | .ax _ _,h=>by simp[tree] at h
 | .iter _ _ _,h=>by simp[tree] at h
 | .mp _ _,h=>by simp[tree] at h
 | .agg cs,h=>by
  simp only[tree] at h;simp only[a9];exact gI n cs h
 | .fn _ cs,h=>by
  simp only[tree] at h;simp only[a9];exact gI n cs h
 | .iface _ cs,h=>by
  simp only[tree] at h;simp only[a9];exact gI n cs h
 | .dS cs,h=>by
  simp only[tree] at h;simp only[a9];exact gI n cs h
 | .int _ _,_=>rfl
 | .bool _,_=>rfl
 | .str _,_=>rfl
 | .aA _ _,_=>rfl
 | .aa,_=>rfl
 | .cG _,_=>rfl
 | .bL,_=>rfl
 | .cA,_=>rfl
 | .any,_=>rfl
theorem gI (n:Nat):∀ cs:List CV,trees cs=true→aX n cs=true
 | [],_=>rfl
 | c::cs,h=>by
  simp only[trees,Bool.and_eq_true] at h;simp only[aX,Bool.and_eq_true];exact⟨aW n c h.1,gI n cs h.2⟩
end
mutual
theorem mb (n:Nat):∀ c:CV,tree c=true→aL n c=true
 | .bl _ _ _,h=>by simp[tree] at h
 | .ax _ _,h=>by simp[tree] at h
 | .iter _ _ _,h=>by simp[tree] at h
 | .mp _ _,h=>by simp[tree] at h
 | .agg cs,h=>by
  simp only[tree] at h;simp only[aL];exact je n cs h
 | .fn _ cs,h=>by
  simp only[tree] at h;simp only[aL];exact je n cs h
 | .iface _ cs,h=>by
  simp only[tree] at h;simp only[aL];exact je n cs h
 | .dS cs,h=>by
  simp only[tree] at h;simp only[aL];exact je n cs h
 | .int _ _,_=>rfl
 | .bool _,_=>rfl
 | .str _,_=>rfl
 | .aA _ _,_=>rfl
 | .aa,_=>rfl
 | .cG _,_=>rfl
 | .bL,_=>rfl
 | .cA,_=>rfl
 | .any,_=>rfl
theorem je (n:Nat):∀ cs:List CV,trees cs=true→dK n cs=true
 | [],_=>rfl
 | c::cs,h=>by
  simp only[trees,Bool.and_eq_true] at h;simp only[dK,Bool.and_eq_true];exact⟨mb n c h.1,je n cs h.2⟩
end
def dk (o q:Nat):CV→CV
 | .bl p off n=>.bl (if p=o then q else p) off n
 | .ax p off=>.ax (if p=o then q else p) off
 | c=>c
def nc (o q:Nat):CV→Bool
 | .bl p _ _=>p != q
 | .ax p _=>p != q
 | c=>aL o c && aL q c
def ku (o q:Nat):CV→CV
 | .agg cs=>.agg (cs.map (dk o q))
 | c=>dk o q c
def z6 (o q:Nat):CV→Bool
 | .agg cs=>cs.all (nc o q)
 | c=>nc o q c
def xE (o q:Nat):List (Nat×CV)→List (Nat×CV)
 | []=>[]
 | (t,c)::r=>(t,ku o q c)::xE o q r
def y9 (o q:Nat):List (Nat×Ob)→List (Nat×Ob)
 | []=>[]
 | (k,ob)::r=>(if k=o then q else k,⟨ob.elem,ob.sz,ob.cells.map (dk o q)⟩)::y9 o q r
def okH (o q:Nat):List (Nat×Ob)→Bool
 | []=>true
 | (_,ob)::r=>ob.cells.all (nc o q) && okH o q r
section
variable {P:Program}{C:Cx}{σ:Nat→Option OB}{s:St}{a:Act}{w:World}
theorem HT (o q:Nat)(c:CV):one (dk o q c)=one c:=by cases c<;>rfl
theorem q8 (o q:Nat)(cs:List CV):(cs.map (dk o q)).all one=cs.all one:=by
 induction cs with
 | nil=>rfl
 | cons c cs ih=>simp only[List.map_cons,List.all_cons,HT,ih]
theorem VR.dk {F F':Nat→Prop}{σ':Nat→Option OB}{o q:Nat}(hk:cw w w F F')(hq:σ' q=σ o)(Pf:∀ p,p≠q→σ' p=σ p){c:CV}{v:Value}(Pe:nc o q c=true)(h:VR w F σ c v):VR w F' σ' (dk o q c) v:=by
 have gen:aL q c=true→VR w F' σ' c v:=fun hn=>VR.bk hk _ _ (fun p hp=>Pf p fun e=>by subst e;rw[hn] at hp;cases hp) h
 cases c with
 | bl p off n=>
  simp only[nc,bne_iff_ne,ne_eq] at Pe;simp only[Can.dk];split
  ·rename_i e;subst e;simp only[VR] at h ⊢;obtain⟨B,h1,h2⟩:=h;exact⟨B,by rw[hq];exact h1,h2⟩
  ·exact gen (by simpa [aL] using Pe)
 | ax p off=>
  simp only[nc,bne_iff_ne,ne_eq] at Pe;simp only[Can.dk];split
  ·rename_i e;subst e;simp only[VR] at h ⊢;obtain⟨B,b,h1,h2⟩:=h;exact⟨B,b,by rw[hq];exact h1,h2⟩
  ·exact gen (by simpa [aL] using Pe)
 | _=>
  simp only[nc,Bool.and_eq_true] at Pe;exact gen Pe.2
theorem aS.dk {F F':Nat→Prop}{σ':Nat→Option OB}{o q:Nat}(hk:cw w w F F')(hq:σ' q=σ o)(Pf:∀ p,p≠q→σ' p=σ p):∀ {cs:List CV} {vs:List Value},cs.all (nc o q)=true→aS w F σ cs vs→aS w F' σ' (cs.map (Can.dk o q)) vs
 | [],_,_,h=>h
 | c::cs,_,Pe,⟨v,r,e,h1,h2⟩=>by
  simp only[List.all_cons,Bool.and_eq_true] at Pe;exact⟨v,r,e,VR.dk hk hq Pf Pe.1 h1,aS.dk hk hq Pf Pe.2 h2⟩
theorem VR.ku {F F':Nat→Prop}{σ':Nat→Option OB}{o q:Nat}(hk:cw w w F F')(hq:σ' q=σ o)(Pf:∀ p,p≠q→σ' p=σ p){c:CV}{v:Value}(Pe:z6 o q c=true)(h:VR w F σ c v):VR w F' σ' (ku o q c) v:=by
 cases c with
 | agg cs=>
  simp only[VR] at h;obtain⟨vs,h1,h2,h3⟩:=h;simp only[Can.ku,VR];exact⟨vs,h1,aS.dk hk hq Pf Pe h2,by rw[q8];exact h3⟩
 | _=>
  simp only[z6] at Pe;simp only[Can.ku];exact VR.dk hk hq Pf Pe h
theorem sO (o q:Nat):∀ (e:List (Nat×CV)) (t:Nat) (c:CV),assoc (xE o q e) t=some c→∃ d,assoc e t=some d∧c=Can.ku o q d
 | [],_,_,h=>by simp[xE,assoc] at h
 | (k,d)::r,t,c,h=>by
  simp only[xE,assoc] at h ⊢;split at h
  ·rename_i e;rw[if_pos e];cases h;exact⟨d,rfl,rfl⟩
  ·rename_i e;rw[if_neg e];exact sO o q r t c h
theorem j6 (o q:Nat):∀ (H:List (Nat×Ob)) (p:Nat) (ob:Ob),assoc H q=none→assoc (y9 o q H) p=some ob→∃ p' Pk,assoc H p'=some Pk∧p=(if p'=o then q else p')∧ob=⟨Pk.elem,Pk.sz,Pk.cells.map (Can.dk o q)⟩
 | [],_,_,_,h=>by simp[y9,assoc] at h
 | (k,x)::r,p,ob,hq,h=>by
  by_cases hkq:k=q
  ·simp[assoc,hkq] at hq
  ·simp only[assoc,if_neg hkq] at hq;by_cases e:(if k=o then q else k)=p
   ·simp only[y9,assoc,if_pos e,Option.some.injEq] at h;exact⟨k,x,by simp[assoc],e.symm,h.symm⟩
   ·simp only[y9,assoc,if_neg e] at h;obtain⟨p',Pk,h1,h2,h3⟩:=j6 o q r p ob hq h;refine⟨p',Pk,?_,h2,h3⟩;simp only[assoc];rw[if_neg fun e'=>e (by rw[h2,e'])];exact h1
theorem HX (o q:Nat):∀ {H:List (Nat×Ob)},okH o q H=true→∀ p ob,assoc H p=some ob→ob.cells.all (nc o q)=true
 | [],_,p,ob,h=>by simp[assoc] at h
 | (k,x)::r,h,p,ob,hp=>by
  simp only[okH,Bool.and_eq_true] at h;simp only[assoc] at hp;split at hp
  ·cases hp;exact h.1
  ·exact HX o q h.2 p ob hp
theorem Le.oX (o q:Nat){ob:Ob}(ho:assoc s.heap o=Option.some ob)(hq:assoc s.heap q=Option.none)(hn:C.n0≤q)(hx:q<s.nx)(he:(s.env.all fun x=>z6 o q x.2)=true)(hH:okH o q s.heap=true):Le C s ⟨xE o q s.env,y9 o q s.heap,s.nx⟩:=by
 intro a w ⟨σ,h⟩;rw[List.all_eq_true] at he;obtain⟨σ',hσ⟩:∃ σ':Nat→Option OB,∀ x,σ' x=if x=q then σ o else σ x:=⟨_,fun _=>rfl⟩
 have s1:σ' q=σ o:=by rw[hσ,if_pos rfl]
 have s2:∀ p,p≠q→σ' p=σ p:=fun p hp=>by rw[hσ,if_neg hp]
 have s3:∀ p,p≠q→σ' (if p=o then q else p)=σ p:=fun p hp=>by
  split
  ·rename_i e;rw[s1,e]
  ·exact s2 p hp
 have TZ:∀ p x,assoc s.heap p=some x→p≠q:=fun p x hp e=>by rw[e,hq] at hp;cases hp
 have hF:∀ b,FB C σ' (y9 o q s.heap) b→FB C σ s.heap b:=by
  rintro b (hb | ⟨p,x,hp,hb⟩)
  ·exact .inl hb
  ·obtain⟨p',y,h1,h2,h3⟩:=j6 o q s.heap p x hq hp;refine .inr ⟨p',y,h1,?_⟩;unfold aY at hb ⊢;rwa [h2,s3 p' (TZ p' y h1)] at hb
 have hk:cw w w (FB C σ s.heap) (FB C σ' (y9 o q s.heap)):=cw.same hF;refine⟨σ',h.nk,h.tm,h.os,h.tape,h.output,h.size,h.frame,?_,?_,?_,?_,?_,h.low,?_⟩
 ·intro t c hc;obtain⟨d,hd,rfl⟩:=sO o q s.env t c hc;obtain⟨v,k1,k2⟩:=h.env t d hd;exact⟨v,k1,VR.ku hk s1 s2 (he _ (bD _ _ _ hd)) k2⟩
 ·intro p x hp;obtain⟨p',y,h1,h2,h3⟩:=j6 o q s.heap p x hq hp;obtain⟨B,m1,m2,m3,m4,m5⟩:=h.obj p' y h1;subst h3;refine⟨B,by rw[h2,s3 p' (TZ p' y h1)];exact m1,m2,fun hb=>by simp[m3 hb],by simp only[q8];exact m4,fun b hb=>?_⟩;obtain⟨cur,n1,n2,n3,n4,n5,n6⟩:=m5 b hb;refine⟨cur,n1,n2,n3,n4,by simpa using n5,?_⟩;simp only[List.length_map];exact aS.dk hk s1 s2 (HX o q hH p' y h1) n6
 ·intro p p1 x x1 b hp UK hb Si;obtain⟨p',y,h1,h2,h3⟩:=j6 o q s.heap p x hq hp;obtain⟨p1',y1,g1,g2,g3⟩:=j6 o q s.heap p1 x1 hq UK;unfold aY at hb Si;rw[h2,s3 p' (TZ p' y h1)] at hb;rw[g2,s3 p1' (TZ p1' y1 g1)] at Si;have:=h.inj p' p1' y y1 b h1 g1 hb Si;rw[h2,g2,this]
 ·intro p hp;simp only at hp;rw[s2 p yA];exact h.nx p hp
 ·intro p hp;rw[s2 p yA];exact h.fh p hp
 ·intro p B b hp hB hb;by_cases e:p=q
  ·subst e;rw[s1] at hB;obtain⟨B',m1,_,_,_,m5⟩:=h.obj o ob ho;rw[m1] at hB;cases hB;obtain⟨cur,_,_,_,n4,_⟩:=m5 b hb;exact n4
  ·rw[s2 p e] at hB;exact h.new p B b hp hB hb
@[simp] theorem ren1_int (o q:Nat)(k:IntKind)(n:Int):dk o q (.int k n)=(.int k n):=rfl
@[simp] theorem ok1_int (o q:Nat)(k:IntKind)(n:Int):nc o q (.int k n)=(aL o (.int k n) && aL q (.int k n)):=rfl
@[simp] theorem renC_int (o q:Nat)(k:IntKind)(n:Int):ku o q (.int k n)=(.int k n):=rfl
@[simp] theorem okC_int (o q:Nat)(k:IntKind)(n:Int):z6 o q (.int k n)=(aL o (.int k n) && aL q (.int k n)):=rfl
@[simp] theorem Of (o q:Nat)(b:Bool):dk o q (.bool b)=(.bool b):=rfl
@[simp] theorem ok1_bool (o q:Nat)(b:Bool):nc o q (.bool b)=(aL o (.bool b) && aL q (.bool b)):=rfl
@[simp] theorem Oc (o q:Nat)(b:Bool):ku o q (.bool b)=(.bool b):=rfl
@[simp] theorem okC_bool (o q:Nat)(b:Bool):z6 o q (.bool b)=(aL o (.bool b) && aL q (.bool b)):=rfl
@[simp] theorem ren1_str (o q:Nat)(s:ByteArray):dk o q (.str s)=(.str s):=rfl
@[simp] theorem ok1_str (o q:Nat)(s:ByteArray):nc o q (.str s)=(aL o (.str s) && aL q (.str s)):=rfl
@[simp] theorem renC_str (o q:Nat)(s:ByteArray):ku o q (.str s)=(.str s):=rfl
@[simp] theorem okC_str (o q:Nat)(s:ByteArray):z6 o q (.str s)=(aL o (.str s) && aL q (.str s)):=rfl
@[simp] theorem ren1_agg (o q:Nat)(cs:List CV):dk o q (.agg cs)=(.agg cs):=rfl
@[simp] theorem ok1_agg (o q:Nat)(cs:List CV):nc o q (.agg cs)=(aL o (.agg cs) && aL q (.agg cs)):=rfl
@[simp] theorem renC_agg (o q:Nat)(cs:List CV):ku o q (.agg cs)=.agg (cs.map (dk o q)):=rfl
@[simp] theorem okC_agg (o q:Nat)(cs:List CV):z6 o q (.agg cs)=cs.all (nc o q):=rfl
@[simp] theorem ren1_tsl (o q:Nat)(cs:List CV)(n:Nat):dk o q (.aA cs n)=(.aA cs n):=rfl
@[simp] theorem ok1_tsl (o q:Nat)(cs:List CV)(n:Nat):nc o q (.aA cs n)=(aL o (.aA cs n) && aL q (.aA cs n)):=rfl
@[simp] theorem renC_tsl (o q:Nat)(cs:List CV)(n:Nat):ku o q (.aA cs n)=(.aA cs n):=rfl
@[simp] theorem okC_tsl (o q:Nat)(cs:List CV)(n:Nat):z6 o q (.aA cs n)=(aL o (.aA cs n) && aL q (.aA cs n)):=rfl
@[simp] theorem ME (o q:Nat)  : dk o q .aa=.aa:=rfl
@[simp] theorem Ok (o q:Nat)  : nc o q .aa=(aL o .aa && aL q .aa):=rfl
@[simp] theorem MB (o q:Nat)  : ku o q .aa=.aa:=rfl
@[simp] theorem Oh (o q:Nat)  : z6 o q .aa=(aL o .aa && aL q .aa):=rfl
@[simp] theorem Od (o q:Nat)(cs:List CV):dk o q (.cG cs)=(.cG cs):=rfl
@[simp] theorem ok1_tptr (o q:Nat)(cs:List CV):nc o q (.cG cs)=(aL o (.cG cs) && aL q (.cG cs)):=rfl
@[simp] theorem N9 (o q:Nat)(cs:List CV):ku o q (.cG cs)=(.cG cs):=rfl
@[simp] theorem okC_tptr (o q:Nat)(cs:List CV):z6 o q (.cG cs)=(aL o (.cG cs) && aL q (.cG cs)):=rfl
@[simp] theorem Lq (o q:Nat)  : dk o q .bL=.bL:=rfl
@[simp] theorem MY (o q:Nat)  : nc o q .bL=(aL o .bL && aL q .bL):=rfl
@[simp] theorem Lp (o q:Nat)  : ku o q .bL=.bL:=rfl
@[simp] theorem MX (o q:Nat)  : z6 o q .bL=(aL o .bL && aL q .bL):=rfl
@[simp] theorem ren1_fn (o q:Nat)(f:FuncId)(cs:List CV):dk o q (.fn f cs)=(.fn f cs):=rfl
@[simp] theorem ok1_fn (o q:Nat)(f:FuncId)(cs:List CV):nc o q (.fn f cs)=(aL o (.fn f cs) && aL q (.fn f cs)):=rfl
@[simp] theorem renC_fn (o q:Nat)(f:FuncId)(cs:List CV):ku o q (.fn f cs)=(.fn f cs):=rfl
@[simp] theorem okC_fn (o q:Nat)(f:FuncId)(cs:List CV):z6 o q (.fn f cs)=(aL o (.fn f cs) && aL q (.fn f cs)):=rfl
@[simp] theorem MF (o q:Nat)  : dk o q .cA=.cA:=rfl
@[simp] theorem Ol (o q:Nat)  : nc o q .cA=(aL o .cA && aL q .cA):=rfl
@[simp] theorem MC (o q:Nat)  : ku o q .cA=.cA:=rfl
@[simp] theorem Oi (o q:Nat)  : z6 o q .cA=(aL o .cA && aL q .cA):=rfl
@[simp] theorem MG (o q:Nat)(t:TypeId)(cs:List CV):dk o q (.iface t cs)=(.iface t cs):=rfl
@[simp] theorem Om (o q:Nat)(t:TypeId)(cs:List CV):nc o q (.iface t cs)=(aL o (.iface t cs) && aL q (.iface t cs)):=rfl
@[simp] theorem MD (o q:Nat)(t:TypeId)(cs:List CV):ku o q (.iface t cs)=(.iface t cs):=rfl
@[simp] theorem Oj (o q:Nat)(t:TypeId)(cs:List CV):z6 o q (.iface t cs)=(aL o (.iface t cs) && aL q (.iface t cs)):=rfl
@[simp] theorem ren1_tup (o q:Nat)(cs:List CV):dk o q (.dS cs)=(.dS cs):=rfl
@[simp] theorem ok1_tup (o q:Nat)(cs:List CV):nc o q (.dS cs)=(aL o (.dS cs) && aL q (.dS cs)):=rfl
@[simp] theorem renC_tup (o q:Nat)(cs:List CV):ku o q (.dS cs)=(.dS cs):=rfl
@[simp] theorem okC_tup (o q:Nat)(cs:List CV):z6 o q (.dS cs)=(aL o (.dS cs) && aL q (.dS cs)):=rfl
@[simp] theorem ren1_osl (o q:Nat)(p f n:Nat):dk o q (.bl p f n)=.bl (if p=o then q else p) f n:=rfl
@[simp] theorem ok1_osl (o q:Nat)(p f n:Nat):nc o q (.bl p f n)=(p != q):=rfl
@[simp] theorem renC_osl (o q:Nat)(p f n:Nat):ku o q (.bl p f n)=.bl (if p=o then q else p) f n:=rfl
@[simp] theorem okC_osl (o q:Nat)(p f n:Nat):z6 o q (.bl p f n)=(p != q):=rfl
@[simp] theorem Oe (o q:Nat)(p f:Nat):dk o q (.ax p f)=.ax (if p=o then q else p) f:=rfl
@[simp] theorem ok1_optr (o q:Nat)(p f:Nat):nc o q (.ax p f)=(p != q):=rfl
@[simp] theorem Oa (o q:Nat)(p f:Nat):ku o q (.ax p f)=.ax (if p=o then q else p) f:=rfl
@[simp] theorem okC_optr (o q:Nat)(p f:Nat):z6 o q (.ax p f)=(p != q):=rfl
@[simp] theorem ren1_any (o q:Nat)  : dk o q .any=.any:=rfl
@[simp] theorem ok1_any (o q:Nat)  : nc o q .any=(aL o .any && aL q .any):=rfl
@[simp] theorem renC_any (o q:Nat)  : ku o q .any=.any:=rfl
@[simp] theorem okC_any (o q:Nat)  : z6 o q .any=(aL o .any && aL q .any):=rfl
attribute [simp] xE y9 okH
end
theorem bQ {α:Type}{f:α→List CV}{n:Nat}(hf:∀ x,(f x).length=n){m:List α}{i:Nat}{e:α}(h:m[i]? = some e)(k:Nat)(hk:k≤n):(m.flatMap f).drop (i*n+k)=(f e).drop k++(m.drop (i+1)).flatMap f:=by
 rw[← List.drop_drop,aN hf h,List.drop_append_of_le_length (by rw[hf];exact hk)]
theorem qv (o q:Nat)(c:CV)(h:tree c=true):nc o q c=true:=by
 cases c<;>first | (simp[tree] at h;done) | (simp only[nc,Bool.and_eq_true];exact⟨mb _ _ h,mb _ _ h⟩)
theorem Fm (o q:Nat)(c:CV)(h:tree c=true):dk o q c=c:=by
 cases c<;>first | (simp[tree] at h;done) | rfl
theorem iA {cs:List CV}(h:trees cs=true):∀ c∈cs,tree c=true:=by
 induction cs with
 | nil=>simp
 | cons c cs ih=>
  simp only[trees,Bool.and_eq_true] at h;intro x hx;rcases List.mem_cons.1 hx with rfl | hx
  ·exact h.1
  ·exact ih h.2 x hx
theorem ah {cs:List CV}(h:trees cs=true)(n:Nat):cs.all (a9 n)=true:=List.all_eq_true.2 fun c hc=>aW n c (iA h c hc)
theorem bj {cs:List CV}(h:trees cs=true)(o q:Nat):cs.all (nc o q)=true:=List.all_eq_true.2 fun c hc=>qv o q c (iA h c hc)
theorem aZ {cs:List CV}(h:trees cs=true)(o q:Nat):cs.map (dk o q)=cs:=by
 have:∀ c∈cs,dk o q c=id c:=fun c hc=>Fm o q c (iA h c hc);rw[List.map_congr_left this,List.map_id]
end Go.Can
