/- Functions of the sanity check, run. -/
import Derived.Test.YtmnglemlimfpbaaGreatZ49
namespace Go.Proofs.YtmnglemlimfpbaaGreat
open Go.Can
def Bt:List CV:=[.agg [.ah,.av [.str ⟨#[97]⟩,.bool false,.int .i64 0] 1,.av [.str ⟨#[109,97,105,110]⟩,.ah,.av [.int .i64 3,.str ⟨#[102]⟩,.int .i64 0,.int .i64 0,.str ⟨#[]⟩,.ah,.str ⟨#[]⟩,.ah,.av [.bool true,.str ⟨#[97]⟩,.ah,.int .i64 0,.int .i64 0,.str ⟨#[]⟩,.ah] 1,.ah,.ah] 1,.str ⟨#[102]⟩,.av [.str ⟨#[109]⟩,.bool true] 1,.av [.int .i64 5,.str ⟨#[]⟩,.int .i64 0,.int .i64 0,.str ⟨#[]⟩,.ah,.str ⟨#[109]⟩,.ah,.ah,.ah,.ah,.int .i64 5,.str ⟨#[]⟩,.int .i64 0,.int .i64 0,.str ⟨#[]⟩,.ah,.str ⟨#[109]⟩,.ah,.ah,.ah,.ah] 2] 2]]
def E7:CV:=.cr [.agg [.ah,.av [.str ⟨#[97]⟩,.bool false,.int .i64 0] 1,.av [.str ⟨#[109,97,105,110]⟩,.int .i64 0,.int .i64 0,.int .i64 0,.av [.int .i64 2,.int .i64 1,.bool false,.int .i64 0,.int .i64 0,.str ⟨#[]⟩,.ah,.bool false,.int .i64 0,.ah,.ah,.av [.bool false,.int .i64 0,.ah] 1,.int .i64 8,.int .i64 0,.bool false,.int .i64 0,.int .i64 0,.str ⟨#[]⟩,.ah,.bool false,.int .i64 0,.ah,.ah,.ah] 2,.str ⟨#[102]⟩,.int .i64 0,.int .i64 1,.int .i64 0,.av [.int .i64 4,.int .i64 0,.bool false,.int .i64 0,.int .i64 0,.str ⟨#[]⟩,.ah,.bool true,.int .i64 0,.ah,.ah,.ah,.int .i64 4,.int .i64 0,.bool false,.int .i64 0,.int .i64 0,.str ⟨#[]⟩,.ah,.bool true,.int .i64 0,.ah,.ah,.ah,.int .i64 8,.int .i64 0,.bool false,.int .i64 0,.int .i64 0,.str ⟨#[]⟩,.ah,.bool false,.int .i64 0,.ah,.ah,.ah] 3] 2,.int .i64 0],.int .i64 0,.int .i64 0,.int .i64 0]
set_option maxRecDepth 1000000 in
theorem J7:ae Tryz.prog 35 Bt E7:=eM (I:=LB [(66,Bs,Bq),(66,Br,Bp)]) (vok (by
  intro x hx
  simp only[List.mem_cons,List.not_mem_nil,or_false] at hx
  rcases hx with rfl | rfl
  ·exact E5
  ·exact E4)) 300 yAb
end Go.Proofs.YtmnglemlimfpbaaGreat
