/- The interpreter's parameters for this program, and that they -/
import Derived.Test.YtlkmbdfhdknlgaaGreatDoorZ19
namespace Go.Proofs.YtlkmbdfhdknlgaaGreatDoor
open Go.Can
def yal:List Nat:=[19,38,46,47,48,49,62,63,64,66,68,69,70,71,81,82,83,84,85,94,95,96,97,99,100,101,105,106,109,114,118,121,128]
def yor:List (Nat×List (Nat×List (Nat×Nat))):=[
 (19,[(9,[(5,7),(4,7),(2,7),(2,4),(1,7),(1,5),(1,2)]),(17,[(7,13),(6,13),(3,13),(0,13)])]),
 (38,[(13,[(1,4),(1,3)])]),
 (47,[(9,[])]),
 (49,[(1,[(0,3),(0,1)]),(17,[(7,9)]),(18,[(12,13),(8,13),(4,13)])]),
 (63,[(1,[])]),
 (64,[(1,[(9,10),(7,10),(3,10)])]),
 (69,[(5,[])]),
 (84,[(4,[(7,9),(7,8),(3,8)])]),
 (85,[(1,[(12,14),(8,14),(8,12),(7,14),(7,12),(6,14),(5,14),(5,7)])]),
 (114,[(1,[(6,10),(5,10),(3,10)]),(3,[])])]
def yk0:CV:=.agg [.aj,.az [.str ⟨#[97]⟩,.bool false,.int .i64 0] 1,.az [.str ⟨#[109,97,105,110]⟩,.aj,.az [.int .i64 5,.str ⟨#[]⟩,.int .i64 0,.int .i64 0,.str ⟨#[]⟩,.aj,.str ⟨#[97]⟩,.aj,.aj,.aj,.aj,.int .i64 6,.str ⟨#[]⟩,.int .i64 0,.int .i64 0,.str ⟨#[]⟩,.aj,.str ⟨#[97]⟩,.aj,.aj,.aj,.aj] 2] 1]
def yk1:CV:=.az [.int .u8 109,.int .u8 117,.int .u8 116,.int .u8 101,.int .u8 120,.int .u8 32,.int .u8 97,.int .u8 59,.int .u8 32,.int .u8 102,.int .u8 117,.int .u8 110,.int .u8 99,.int .u8 32,.int .u8 109,.int .u8 97,.int .u8 105,.int .u8 110,.int .u8 40,.int .u8 41,.int .u8 32,.int .u8 123,.int .u8 32,.int .u8 108,.int .u8 111,.int .u8 99,.int .u8 107,.int .u8 32,.int .u8 97,.int .u8 59,.int .u8 32,.int .u8 117,.int .u8 110,.int .u8 108,.int .u8 111,.int .u8 99,.int .u8 107,.int .u8 32,.int .u8 97,.int .u8 59,.int .u8 32,.int .u8 125] 42
def ymt:hZ:=[]
def ynp:List Nat:=[]
def CU:IP:=⟨av,ymt,fun g=>yal.contains g,fun g=>!ynp.contains g,fun g id=>match assoc yor g with
 | some l=>assoc l id
 | none=>none,[],[],[]⟩
def Ks (Fa:List (FuncId×List CV×CV)):IP:={ CU with Fa:=Fa }
theorem ymtOk:Du Tryz.prog ymt=true:=by kernel_rfl
theorem ygd:AB Tryz.prog CU yal=true:=by kernel_rfl
theorem ymi:MU Tryz.prog []:=fun _ h=>by cases h
theorem yei:MW Tryz.prog []:=fun _ h=>by cases h
theorem M0 {Fa:List (FuncId×List CV×CV)}(h:∀ x∈Fa,ae Tryz.prog x.1 x.2.1 x.2.2):La Tryz.prog (Ks Fa):=
 ⟨h,af,py ymtOk,ymi,yei,follows,AA (l:=yal) ((Ff CU Fa yal).trans ygd) fun g ha=>by simpa [Ks,CU] using ha⟩
end Go.Proofs.YtlkmbdfhdknlgaaGreatDoor
