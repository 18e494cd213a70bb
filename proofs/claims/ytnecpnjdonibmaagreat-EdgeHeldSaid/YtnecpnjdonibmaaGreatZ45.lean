/- The interpreter's parameters for this program, and that they -/
import Derived.Test.YtnecpnjdonibmaaGreatZ26
namespace Go.Proofs.YtnecpnjdonibmaaGreat
open Go.Can
def yal:List Nat:=[33,35,37,40,68,69,74,86,89,97,98,99,100,105,106,107,112,113,133,134,135,136,137,158,159,160,162,164,165,166,167,171,172,173,175,176,177,178,179,200,201,202,203,204,209,210,211,212,214,215,216,218,219,221,230,231,232,233,258,259,262,267,270,273,275,276,277,278,279,280,286,294,295,311,318,323,324,347,350]
def yor:List (Nat×List (Nat×OrcE)):=[
 (40,[(6,.fh [] [0,1,2,3,4,5,6,7,8] [])]),
 (68,[(9,.tr [0,1,2,3,4,5,6,7,8] [(5,7),(4,7),(2,7),(2,4),(1,7),(1,5),(1,2)]),(17,.tr [0,1,2,3,4,5,6,7,8,9,10,11,12,13,14,15,16,17] [(7,13),(6,13),(3,13),(0,13)])]),
 (69,[(6,.fh [] [0,1,2,3,4,5,6,7,8,9,10,11] []),(14,.tr [0,1,2,3,4,5,6,7,8,9,10,11,12,13] [(7,11),(5,11),(2,11),(0,11)])]),
 (86,[(13,.tr [0,1,2,3,4,5,6,7] [(1,4),(1,3)])]),
 (99,[(1,.fh [] [0,1,2,3,4,5,6,7,8,9,10,11,12,13,14,15,16,17,18,19,20,21,22,23,24,25,26] [])]),
 (105,[(6,.fh [] [0,1,2,3,4,5,6,7] [8,9])]),
 (107,[(10,.tr [0,1,2,3,4,5,6,7,8,9,10,11,12,13] [(3,11)])]),
 (134,[(9,.fh [] [0,1,2,3,4,5,6,7,8,9,10,11,12,13,14,15] [16])]),
 (136,[(1,.tr [0,1,2,3,4,5,6] [(0,3),(0,1)]),(17,.tr [0,1,2,3,4,5,6,7,8,9,10,11] [(7,9)]),(18,.tr [0,1,2,3,4,5,6,7,8,9,10,11,12,13,14,15,16] [(12,13),(8,13),(4,13)])]),
 (159,[(1,.fh [] [0,1,2,3,4,5,6,7,8,9,10,11,12,13,14,15,16,17,18,19,20] [])]),
 (160,[(1,.tr [0,1,2,3,4,5,6,7,8,9,10,11] [(9,10),(7,10),(3,10)])]),
 (165,[(5,.fh [] [0,1,2,3,4,5,6,7,8,9,10,11,12] [])]),
 (175,[(1,.tr [0,1,2,3,4,5,6,7,8,9,10] [(7,9),(5,9),(3,9),(3,7),(3,5),(1,9),(1,7),(0,9),(0,7)]),(5,.tr [0,1,2,3,4,5,6,7,8,9,10,11,12] [(1,9),(1,8)]),(17,.fh [] [0,1,2,3,4,5,6,7,8,9,10,11,12] [])]),
 (177,[(5,.fh [] [0,1,2,3,4,5,6,7,8,9,10,11,12,13,14,15] [])]),
 (178,[(6,.fh [] [0,1,2,3,4,5,6,7,8] [])]),
 (203,[(4,.tr [0,1,2,3,4,5,6,7,8,9,10] [(7,9),(7,8),(3,8)])]),
 (204,[(1,.tr [0,1,2,3,4,5,6,7,8,9,10,11,12,13,14,15,16,17,18,19,20,21] [(12,14),(8,14),(8,12),(7,14),(7,12),(6,14),(5,14),(5,7)])]),
 (233,[(5,.fh [] [0,1,2,3,4,5,6,7,8,9,10,11] [12])]),
 (267,[(1,.tr [0,1,2,3,4,5,6,7,8,9,10,11,12] [(6,10),(5,10),(3,10)]),(3,.fh [] [0,1,2,3,4,5,6,7,8,9,10,11,12,13,14,15,16] [])]),
 (295,[(14,.tr [0,1,2,3,4,5,6,7,8,9] [(3,7)])]),
 (324,[(4,.fh [] [0,1,2,3,4,5,6,7,8,9] [])])]
def ymt : jv := [((377, "lockorder/flow.next"), 350), ((376, "lockorder/flow.next"), 349), ((375, "lockorder/flow.next"), 348), ((373, "lockorder/flow.next"), 347)]
def ynp:List Nat:=[176]
def Dt:IP:=⟨ak,ymt,fun g=>yal.contains g,fun g=>!ynp.contains g,fun g id=>match assoc yor g with
 | some l=>assoc l id
 | none=>none,[],[⟨242,243,4,DS,.bool false⟩],[⟨76,Fp⟩]⟩
def wK (FO:List (FuncId×List CV×CV)):IP:={ Dt with FO:=FO }
theorem ymtOk:D3 Tryz.prog ymt=true:=by kernel_rfl
theorem ygd:Bj Tryz.prog Dt yal=true:=by kernel_rfl
theorem ymi:NR Tryz.prog [⟨242,243,4,DS,.bool false⟩]:=by
 intro x hx;simp only[List.mem_cons,List.not_mem_nil,or_false] at hx;subst hx;exact FL Tryz.underlying242 ⟨Tryz.underlying243,by kernel_rfl,by kernel_rfl,by kernel_rfl⟩ Tryz.underlying3 ⟨Tryz.prog.types.size-1,by kernel_rfl⟩ ((FQ OV))
theorem yei:NU Tryz.prog [⟨76,Fp⟩]:=by
 intro x hx;simp only[List.mem_cons,List.not_mem_nil,or_false] at hx;subst hx;exact FZ (ti:=3) OV OV OV Tryz.underlying3 OV
theorem yx {FO:List (FuncId×List CV×CV)}(h:∀ x∈FO,af Tryz.prog x.1 x.2.1 x.2.2):L5 Tryz.prog (wK FO):=
 ⟨h,ai,pQ ymtOk,ymi,yei,follows,Bi (l:=yal) ((FT Dt FO yal).trans ygd) fun g ha=>by simpa [wK,Dt] using ha⟩
end Go.Proofs.YtnecpnjdonibmaaGreat
