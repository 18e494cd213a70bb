/- Lemmas. -/
import Derived.Test.YtlkmbdfhdknlgaaGreatW12
namespace Go.Proofs.YtlkmbdfhdknlgaaGreat
open Go.Can Tryz
def yal:List Nat:=[27,46,47,53,67,68,69,70,88,96,97,98,100,102,103,104,105,106,109,110,113,114,115,118,119,126,127,128,129,130,137,138,139,140,142,143,144,149,152,153,154,161,162,163,165,169,170,173,175,176,194,195]
def yor:List (Nat×List (Nat×List (Nat×Nat))):=[
 (27,[(9,[(5,7),(4,7),(2,7),(2,4),(1,7),(1,5),(1,2)]),(17,[(7,13),(6,13),(3,13),(0,13)])]),
 (46,[(13,[(1,4),(1,3)])]),
 (47,[(5,[(6,10),(5,10),(1,10),(0,10)])]),
 (53,[(29,[(1,6),(1,5)])]),
 (68,[(9,[])]),
 (70,[(1,[(0,3),(0,1)]),(6,[(10,14),(9,14),(5,14),(3,14)]),(10,[(4,14)]),(17,[(7,9)]),(18,[(12,13),(8,13),(4,13)])]),
 (88,[(6,[])]),
 (97,[(1,[])]),
 (98,[(1,[(9,10),(7,10),(3,10)])]),
 (103,[(5,[])]),
 (106,[(1,[(10,18),(8,22),(8,20),(8,18),(8,17),(8,14),(8,12),(8,10),(6,22),(6,20),(6,18),(6,17),(6,14),(6,12),(6,10),(5,22),(5,20),(5,18),(3,22),(3,20),(3,18),(3,17),(3,14),(3,12),(3,10),(3,5),(2,22),(2,20),(2,18),(0,22),(0,20),(0,18),(0,17),(0,14),(0,12),(0,10),(0,5),(0,2)])]),
 (109,[(4,[])]),
 (110,[(1,[(13,15),(11,15),(11,13),(10,15),(8,15),(8,13),(8,10),(7,15),(7,13),(7,10),(7,8),(6,15),(6,8),(4,15),(4,13),(4,10),(4,8),(4,6),(3,15),(3,13),(3,10),(3,8),(3,6),(3,4),(2,15),(2,8),(2,4),(0,15),(0,13),(0,10),(0,8),(0,6),(0,4),(0,2)])]),
 (113,[(13,[]),(17,[])]),
 (129,[(4,[(7,9),(7,8),(3,8)])]),
 (130,[(1,[(12,14),(8,14),(8,12),(7,14),(7,12),(6,14),(5,14),(5,7)])]),
 (165,[(14,[(2,6)])]),
 (169,[(4,[(6,10),(5,10),(3,10)]),(12,[]),(20,[]),(24,[(1,7),(1,6)])]),
 (170,[(1,[(6,10),(5,10),(3,10)]),(3,[])])]
def yk0:CV:=.agg [.aj,.az [.str ⟨#[97]⟩,.bool false,.int .i64 0] 1,.az [.str ⟨#[109,97,105,110]⟩,.aj,.az [.int .i64 3,.str ⟨#[102]⟩,.int .i64 0,.int .i64 0,.str ⟨#[]⟩,.aj,.str ⟨#[]⟩,.aj,.az [.bool true,.str ⟨#[97]⟩,.aj,.int .i64 0,.int .i64 0,.str ⟨#[]⟩,.aj] 1,.aj,.aj] 1,.str ⟨#[102]⟩,.az [.str ⟨#[109]⟩,.bool true] 1,.az [.int .i64 5,.str ⟨#[]⟩,.int .i64 0,.int .i64 0,.str ⟨#[]⟩,.aj,.str ⟨#[109]⟩,.aj,.aj,.aj,.aj,.int .i64 5,.str ⟨#[]⟩,.int .i64 0,.int .i64 0,.str ⟨#[]⟩,.aj,.str ⟨#[109]⟩,.aj,.aj,.aj,.aj] 2] 2]
def yk1:CV:=.az [.int .u8 109,.int .u8 117,.int .u8 116,.int .u8 101,.int .u8 120,.int .u8 32,.int .u8 97,.int .u8 59,.int .u8 32,.int .u8 102,.int .u8 117,.int .u8 110,.int .u8 99,.int .u8 32,.int .u8 109,.int .u8 97,.int .u8 105,.int .u8 110,.int .u8 40,.int .u8 41,.int .u8 32,.int .u8 123,.int .u8 32,.int .u8 102,.int .u8 40,.int .u8 109,.int .u8 117,.int .u8 116,.int .u8 101,.int .u8 120,.int .u8 32,.int .u8 97,.int .u8 41,.int .u8 59,.int .u8 32,.int .u8 125,.int .u8 32,.int .u8 102,.int .u8 117,.int .u8 110,.int .u8 99,.int .u8 32,.int .u8 102,.int .u8 40,.int .u8 109,.int .u8 117,.int .u8 116,.int .u8 101,.int .u8 120,.int .u8 32,.int .u8 109,.int .u8 41,.int .u8 32,.int .u8 123,.int .u8 32,.int .u8 108,.int .u8 111,.int .u8 99,.int .u8 107,.int .u8 32,.int .u8 109,.int .u8 59,.int .u8 32,.int .u8 108,.int .u8 111,.int .u8 99,.int .u8 107,.int .u8 32,.int .u8 109,.int .u8 59,.int .u8 32,.int .u8 125] 72
def ymt:jh:=[]
def ynp:List Nat:=[110]
def FL:IP:=⟨av,ymt,λ g=>yal.contains g,λ g=>!ynp.contains g,λ g id=>match assoc yor g with
 | some l=>assoc l id
 | none=>none,[],[],[]⟩
def Ja (Ii:List (FuncId×List CV×CV)):IP:={ FL with Ii:=Ii }
theorem ymtOk:Gx prog ymt=true:=by kernel_rfl
theorem ygd:Da prog FL yal=true:=by kernel_rfl
theorem ymi:Rm prog []:=λ _ h=>by cases h
theorem yei:Mh prog []:=λ _ h=>by cases h
theorem PJ {Ii:List (FuncId×List CV×CV)}(h:∀ x∈Ii,ae prog x.1 x.2.1 x.2.2):PE prog (Ja Ii):=
 ⟨h,af,qX ymtOk,ymi,yei,follows,C9 (l:=yal) ((Im FL Ii yal).trans ygd) λ g ha=>by simpa [Ja,FL] using ha⟩
end Go.Proofs.YtlkmbdfhdknlgaaGreat
