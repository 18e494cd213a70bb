/- The interpreter's parameters for this program, and that they -/
import Derived.Test.YtnecpnjdonibmaaGreatZ24
namespace Go.Proofs.YtnecpnjdonibmaaGreat
open Go.Can
def yal:List Nat:=[33,35,37,40,68,69,74,86,89,97,98,99,100,105,106,107,112,113,133,134,135,136,137,158,159,160,162,164,165,166,167,171,172,173,175,176,177,178,179,200,201,202,203,204,209,210,211,212,214,215,216,218,219,221,230,231,232,233,258,259,262,267,270,273,275,276,277,278,279,280,286,294,295,311,318,323,324,347,350]
def yor:List (Nat×List (Nat×List (Nat×Nat))):=[
 (40,[(6,[])]),
 (68,[(9,[(5,7),(4,7),(2,7),(2,4),(1,7),(1,5),(1,2)]),(17,[(7,13),(6,13),(3,13),(0,13)])]),
 (69,[(6,[]),(14,[(7,11),(5,11),(2,11),(0,11)])]),
 (86,[(13,[(1,4),(1,3)])]),
 (99,[(1,[])]),
 (105,[(6,[])]),
 (107,[(10,[(3,11)])]),
 (134,[(9,[])]),
 (136,[(1,[(0,3),(0,1)]),(17,[(7,9)]),(18,[(12,13),(8,13),(4,13)])]),
 (159,[(1,[])]),
 (160,[(1,[(9,10),(7,10),(3,10)])]),
 (165,[(5,[])]),
 (175,[(1,[(7,9),(5,9),(3,9),(3,7),(3,5),(1,9),(1,7),(0,9),(0,7)]),(5,[(1,9),(1,8)]),(17,[])]),
 (177,[(5,[])]),
 (178,[(6,[])]),
 (203,[(4,[(7,9),(7,8),(3,8)])]),
 (204,[(1,[(12,14),(8,14),(8,12),(7,14),(7,12),(6,14),(5,14),(5,7)])]),
 (233,[(5,[])]),
 (267,[(1,[(6,10),(5,10),(3,10)]),(3,[])]),
 (295,[(14,[(3,7)])]),
 (324,[(4,[])])]
def Fp:CV:=.agg [.ai,.az [.str ⟨#[97]⟩,.bool false,.int .i64 0,.str ⟨#[98]⟩,.bool false,.int .i64 0] 2,.az [.str ⟨#[109,97,105,110]⟩,.int .i64 0,.int .i64 0,.int .i64 0,.az [.int .i64 4,.int .i64 0,.bool false,.int .i64 0,.int .i64 0,.str ⟨#[]⟩,.ai,.bool false,.int .i64 0,.ai,.ai,.ai,.int .i64 4,.int .i64 0,.bool false,.int .i64 0,.int .i64 0,.str ⟨#[]⟩,.ai,.bool false,.int .i64 1,.ai,.ai,.ai,.int .i64 5,.int .i64 0,.bool false,.int .i64 0,.int .i64 0,.str ⟨#[]⟩,.ai,.bool false,.int .i64 1,.ai,.ai,.ai,.int .i64 5,.int .i64 0,.bool false,.int .i64 0,.int .i64 0,.str ⟨#[]⟩,.ai,.bool false,.int .i64 0,.ai,.ai,.ai,.int .i64 8,.int .i64 0,.bool false,.int .i64 0,.int .i64 0,.str ⟨#[]⟩,.ai,.bool false,.int .i64 0,.ai,.ai,.ai] 5] 1,.int .i64 0]
def yk1:CV:=.agg [.ai,.az [.str ⟨#[97]⟩,.bool false,.int .i64 0,.str ⟨#[98]⟩,.bool false,.int .i64 0] 2,.az [.str ⟨#[109,97,105,110]⟩,.ai,.az [.int .i64 5,.str ⟨#[]⟩,.int .i64 0,.int .i64 0,.str ⟨#[]⟩,.ai,.str ⟨#[97]⟩,.ai,.ai,.ai,.ai,.int .i64 5,.str ⟨#[]⟩,.int .i64 0,.int .i64 0,.str ⟨#[]⟩,.ai,.str ⟨#[98]⟩,.ai,.ai,.ai,.ai,.int .i64 6,.str ⟨#[]⟩,.int .i64 0,.int .i64 0,.str ⟨#[]⟩,.ai,.str ⟨#[98]⟩,.ai,.ai,.ai,.ai,.int .i64 6,.str ⟨#[]⟩,.int .i64 0,.int .i64 0,.str ⟨#[]⟩,.ai,.str ⟨#[97]⟩,.ai,.ai,.ai,.ai] 4] 1]
def FM:CV:=.agg [.az [.int .i64 0,.ai] 1,.az [.az [.int .i64 (-1),.int .i64 (-1),.int .i64 (-1),.int .i64 (-1),.int .i64 (-1)] 5] 1,.az [.int .i64 0] 1]
def yk3:CV:=.az [.int .u8 109,.int .u8 117,.int .u8 116,.int .u8 101,.int .u8 120,.int .u8 32,.int .u8 97,.int .u8 59,.int .u8 32,.int .u8 109,.int .u8 117,.int .u8 116,.int .u8 101,.int .u8 120,.int .u8 32,.int .u8 98,.int .u8 59,.int .u8 32,.int .u8 102,.int .u8 117,.int .u8 110,.int .u8 99,.int .u8 32,.int .u8 109,.int .u8 97,.int .u8 105,.int .u8 110,.int .u8 40,.int .u8 41,.int .u8 32,.int .u8 123,.int .u8 32,.int .u8 108,.int .u8 111,.int .u8 99,.int .u8 107,.int .u8 32,.int .u8 97,.int .u8 59,.int .u8 32,.int .u8 108,.int .u8 111,.int .u8 99,.int .u8 107,.int .u8 32,.int .u8 98,.int .u8 59,.int .u8 32,.int .u8 117,.int .u8 110,.int .u8 108,.int .u8 111,.int .u8 99,.int .u8 107,.int .u8 32,.int .u8 98,.int .u8 59,.int .u8 32,.int .u8 117,.int .u8 110,.int .u8 108,.int .u8 111,.int .u8 99,.int .u8 107,.int .u8 32,.int .u8 97,.int .u8 59,.int .u8 32,.int .u8 125] 69
def LF:CV:=.az [.int .i64 1,.int .i64 0] 2
def ymt : gL := [((377, "lockorder/flow.next"), 350), ((376, "lockorder/flow.next"), 349), ((375, "lockorder/flow.next"), 348), ((373, "lockorder/flow.next"), 347)]
def ynp:List Nat:=[176]
def Ck:IP:=⟨au,ymt,fun g=>yal.contains g,fun g=>!ynp.contains g,fun g id=>match assoc yor g with
 | some l=>assoc l id
 | none=>none,[],[⟨242,243,4,CN,.bool false⟩],[⟨76,D8⟩]⟩
def uY (EE:List (FuncId×List CV×CV)):IP:={ Ck with EE:=EE }
theorem ymtOk:C3 Tryz.prog ymt=true:=by kernel_rfl
theorem ygd:zZ Tryz.prog Ck yal=true:=by kernel_rfl
theorem ymi:Nq Tryz.prog [⟨242,243,4,CN,.bool false⟩]:=by
 intro x hx;simp only[List.mem_cons,List.not_mem_nil,or_false] at hx;subst hx;exact EB Tryz.underlying242 ⟨Tryz.underlying243,by kernel_rfl,by kernel_rfl,by kernel_rfl⟩ Tryz.underlying3 ⟨Tryz.prog.types.size-1,by kernel_rfl⟩ ((EG PH))
theorem yei:Ns Tryz.prog [⟨76,D8⟩]:=by
 intro x hx;simp only[List.mem_cons,List.not_mem_nil,or_false] at hx;subst hx;exact EO (ti:=3) PH PH PH Tryz.underlying3 PH
theorem xb {EE:List (FuncId×List CV×CV)}(h:∀ x∈EE,ae Tryz.prog x.1 x.2.1 x.2.2):Ls Tryz.prog (uY EE):=
 ⟨h,ah,ot ymtOk,ymi,yei,follows,zY (l:=yal) ((EH Ck EE yal).trans ygd) fun g ha=>by simpa [uY,Ck] using ha⟩
end Go.Proofs.YtnecpnjdonibmaaGreat
