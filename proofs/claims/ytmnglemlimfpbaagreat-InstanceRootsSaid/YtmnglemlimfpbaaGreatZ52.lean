/- Functions of the sanity check, run. | Functions of the sanity check, run. -/
import Derived.Test.YtmnglemlimfpbaaGreatZ50
import Derived.Test.YtmnglemlimfpbaaGreatZ51
namespace Go.Proofs.YtmnglemlimfpbaaGreat
open Go.Can
def CW:List CV:=[.agg [.ai,.ax [.str ⟨#[97]⟩,.bool false,.int .i64 0,.str ⟨#[98]⟩,.bool false,.int .i64 0] 2,.ax [.str ⟨#[109,97,105,110]⟩,.ai,.ax [.int .i64 3,.str ⟨#[102]⟩,.int .i64 0,.int .i64 0,.str ⟨#[]⟩,.ai,.str ⟨#[]⟩,.ai,.ax [.bool true,.str ⟨#[97]⟩,.ai,.int .i64 0,.int .i64 0,.str ⟨#[]⟩,.ai] 1,.ai,.ai,.int .i64 4,.str ⟨#[102]⟩,.int .i64 0,.int .i64 0,.str ⟨#[]⟩,.ai,.str ⟨#[]⟩,.ai,.ax [.bool true,.str ⟨#[98]⟩,.ai,.int .i64 0,.int .i64 0,.str ⟨#[]⟩,.ai] 1,.ai,.ai] 2,.str ⟨#[102]⟩,.ax [.str ⟨#[109]⟩,.bool true] 1,.ax [.int .i64 5,.str ⟨#[]⟩,.int .i64 0,.int .i64 0,.str ⟨#[]⟩,.ai,.str ⟨#[109]⟩,.ai,.ai,.ai,.ai] 1] 2]]
def CR:CV:=.df [.agg [.ai,.ax [.str ⟨#[97]⟩,.bool false,.int .i64 0,.str ⟨#[98]⟩,.bool false,.int .i64 0] 2,.ax [.str ⟨#[109,97,105,110]⟩,.int .i64 0,.int .i64 0,.int .i64 0,.ax [.int .i64 2,.int .i64 1,.bool false,.int .i64 0,.int .i64 0,.str ⟨#[]⟩,.ai,.bool false,.int .i64 0,.ai,.ai,.ax [.bool false,.int .i64 0,.ai] 1,.int .i64 3,.int .i64 1,.bool false,.int .i64 0,.int .i64 0,.str ⟨#[]⟩,.ai,.bool false,.int .i64 0,.ai,.ai,.ax [.bool false,.int .i64 1,.ai] 1,.int .i64 8,.int .i64 0,.bool false,.int .i64 0,.int .i64 0,.str ⟨#[]⟩,.ai,.bool false,.int .i64 0,.ai,.ai,.ai] 3,.str ⟨#[102]⟩,.int .i64 0,.int .i64 1,.int .i64 0,.ax [.int .i64 4,.int .i64 0,.bool false,.int .i64 0,.int .i64 0,.str ⟨#[]⟩,.ai,.bool true,.int .i64 0,.ai,.ai,.ai,.int .i64 8,.int .i64 0,.bool false,.int .i64 0,.int .i64 0,.str ⟨#[]⟩,.ai,.bool false,.int .i64 0,.ai,.ai,.ai] 2] 2,.int .i64 0],.int .i64 0,.int .i64 0,.int .i64 0]
set_option maxRecDepth 1000000 in
theorem HG:ah Tryz.prog 35 CW CR:=dZ (I:=HH [(66,y6,y4),(66,y5,y3)]) (xok (by
  intro x hx
  simp only[List.mem_cons,List.not_mem_nil,or_false] at hx
  rcases hx with rfl | rfl
  ·exact CO
  ·exact CN)) 300 (by kernel_rfl)
end Go.Proofs.YtmnglemlimfpbaaGreat
namespace Go.Proofs.YtmnglemlimfpbaaGreat
open Go.Can
def CT:List CV:=[.str ⟨#[109,117,116,101,120,32,97,59,32,109,117,116,101,120,32,98,59,32,102,117,110,99,32,109,97,105,110,40,41,32,123,32,102,40,109,117,116,101,120,32,97,41,59,32,103,111,32,102,40,109,117,116,101,120,32,98,41,59,32,125,32,102,117,110,99,32,102,40,109,117,116,101,120,32,109,41,32,123,32,108,111,99,107,32,109,59,32,125]⟩]
def CP:CV:=.agg [.ai,.ax [.str ⟨#[97]⟩,.bool false,.int .i64 0,.str ⟨#[98]⟩,.bool false,.int .i64 0] 2,.ax [.str ⟨#[109,97,105,110]⟩,.int .i64 0,.int .i64 0,.int .i64 0,.ax [.int .i64 2,.int .i64 1,.bool false,.int .i64 0,.int .i64 0,.str ⟨#[]⟩,.ai,.bool false,.int .i64 0,.ai,.ai,.ax [.bool false,.int .i64 0,.ai] 1,.int .i64 3,.int .i64 1,.bool false,.int .i64 0,.int .i64 0,.str ⟨#[]⟩,.ai,.bool false,.int .i64 0,.ai,.ai,.ax [.bool false,.int .i64 1,.ai] 1,.int .i64 8,.int .i64 0,.bool false,.int .i64 0,.int .i64 0,.str ⟨#[]⟩,.ai,.bool false,.int .i64 0,.ai,.ai,.ai] 3,.str ⟨#[102]⟩,.int .i64 0,.int .i64 1,.int .i64 0,.ax [.int .i64 4,.int .i64 0,.bool false,.int .i64 0,.int .i64 0,.str ⟨#[]⟩,.ai,.bool true,.int .i64 0,.ai,.ai,.ai,.int .i64 8,.int .i64 0,.bool false,.int .i64 0,.int .i64 0,.str ⟨#[]⟩,.ai,.bool false,.int .i64 0,.ai,.ai,.ai] 2] 2,.int .i64 0]
set_option maxRecDepth 1000000 in
theorem HE:ah Tryz.prog 52 CT CP:=dZ (I:=HH [(43,CU,CQ),(35,CW,CR)]) (xok (by
  intro x hx
  simp only[List.mem_cons,List.not_mem_nil,or_false] at hx
  rcases hx with rfl | rfl
  ·exact HF
  ·exact HG)) 300 (by kernel_rfl)
end Go.Proofs.YtmnglemlimfpbaaGreat
