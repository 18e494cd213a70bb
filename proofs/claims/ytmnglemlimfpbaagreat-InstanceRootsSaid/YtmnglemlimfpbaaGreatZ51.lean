/- Functions of the sanity check, run. -/
import Derived.Test.YtmnglemlimfpbaaGreatZ50
namespace Go.Proofs.YtmnglemlimfpbaaGreat
open Go.Can
def CU:List CV:=[.ax [.int .u8 109,.int .u8 117,.int .u8 116,.int .u8 101,.int .u8 120,.int .u8 32,.int .u8 97,.int .u8 59,.int .u8 32,.int .u8 109,.int .u8 117,.int .u8 116,.int .u8 101,.int .u8 120,.int .u8 32,.int .u8 98,.int .u8 59,.int .u8 32,.int .u8 102,.int .u8 117,.int .u8 110,.int .u8 99,.int .u8 32,.int .u8 109,.int .u8 97,.int .u8 105,.int .u8 110,.int .u8 40,.int .u8 41,.int .u8 32,.int .u8 123,.int .u8 32,.int .u8 102,.int .u8 40,.int .u8 109,.int .u8 117,.int .u8 116,.int .u8 101,.int .u8 120,.int .u8 32,.int .u8 97,.int .u8 41,.int .u8 59,.int .u8 32,.int .u8 103,.int .u8 111,.int .u8 32,.int .u8 102,.int .u8 40,.int .u8 109,.int .u8 117,.int .u8 116,.int .u8 101,.int .u8 120,.int .u8 32,.int .u8 98,.int .u8 41,.int .u8 59,.int .u8 32,.int .u8 125,.int .u8 32,.int .u8 102,.int .u8 117,.int .u8 110,.int .u8 99,.int .u8 32,.int .u8 102,.int .u8 40,.int .u8 109,.int .u8 117,.int .u8 116,.int .u8 101,.int .u8 120,.int .u8 32,.int .u8 109,.int .u8 41,.int .u8 32,.int .u8 123,.int .u8 32,.int .u8 108,.int .u8 111,.int .u8 99,.int .u8 107,.int .u8 32,.int .u8 109,.int .u8 59,.int .u8 32,.int .u8 125] 88]
def CQ:CV:=.df [.agg [.ai,.ax [.str ⟨#[97]⟩,.bool false,.int .i64 0,.str ⟨#[98]⟩,.bool false,.int .i64 0] 2,.ax [.str ⟨#[109,97,105,110]⟩,.ai,.ax [.int .i64 3,.str ⟨#[102]⟩,.int .i64 0,.int .i64 0,.str ⟨#[]⟩,.ai,.str ⟨#[]⟩,.ai,.ax [.bool true,.str ⟨#[97]⟩,.ai,.int .i64 0,.int .i64 0,.str ⟨#[]⟩,.ai] 1,.ai,.ai,.int .i64 4,.str ⟨#[102]⟩,.int .i64 0,.int .i64 0,.str ⟨#[]⟩,.ai,.str ⟨#[]⟩,.ai,.ax [.bool true,.str ⟨#[98]⟩,.ai,.int .i64 0,.int .i64 0,.str ⟨#[]⟩,.ai] 1,.ai,.ai] 2,.str ⟨#[102]⟩,.ax [.str ⟨#[109]⟩,.bool true] 1,.ax [.int .i64 5,.str ⟨#[]⟩,.int .i64 0,.int .i64 0,.str ⟨#[]⟩,.ai,.str ⟨#[109]⟩,.ai,.ai,.ai,.ai] 1] 2],.int .i64 88,.int .i64 0]
set_option maxRecDepth 1000000 in
theorem HF:ah Tryz.prog 43 CU CQ:=dZ (I:=HH [(66,y6,y4),(66,y5,y3)]) (xok (by
  intro x hx
  simp only[List.mem_cons,List.not_mem_nil,or_false] at hx
  rcases hx with rfl | rfl
  ·exact CO
  ·exact CN)) 300 (by kernel_rfl)
end Go.Proofs.YtmnglemlimfpbaaGreat
