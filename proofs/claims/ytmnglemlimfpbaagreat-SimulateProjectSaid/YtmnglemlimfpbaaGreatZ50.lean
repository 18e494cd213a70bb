/- Functions of the sanity check, run. -/
import Derived.Test.YtmnglemlimfpbaaGreatZ49
namespace Go.Proofs.YtmnglemlimfpbaaGreat
open Go.Can
def J8:List CV:=[.av [.int .u8 109,.int .u8 117,.int .u8 116,.int .u8 101,.int .u8 120,.int .u8 32,.int .u8 97,.int .u8 59,.int .u8 32,.int .u8 102,.int .u8 117,.int .u8 110,.int .u8 99,.int .u8 32,.int .u8 109,.int .u8 97,.int .u8 105,.int .u8 110,.int .u8 40,.int .u8 41,.int .u8 32,.int .u8 123,.int .u8 32,.int .u8 102,.int .u8 40,.int .u8 109,.int .u8 117,.int .u8 116,.int .u8 101,.int .u8 120,.int .u8 32,.int .u8 97,.int .u8 41,.int .u8 59,.int .u8 32,.int .u8 125,.int .u8 32,.int .u8 102,.int .u8 117,.int .u8 110,.int .u8 99,.int .u8 32,.int .u8 102,.int .u8 40,.int .u8 109,.int .u8 117,.int .u8 116,.int .u8 101,.int .u8 120,.int .u8 32,.int .u8 109,.int .u8 41,.int .u8 32,.int .u8 123,.int .u8 32,.int .u8 108,.int .u8 111,.int .u8 99,.int .u8 107,.int .u8 32,.int .u8 109,.int .u8 59,.int .u8 32,.int .u8 108,.int .u8 111,.int .u8 99,.int .u8 107,.int .u8 32,.int .u8 109,.int .u8 59,.int .u8 32,.int .u8 125] 72]
def E6:CV:=.cr [.agg [.ah,.av [.str ⟨#[97]⟩,.bool false,.int .i64 0] 1,.av [.str ⟨#[109,97,105,110]⟩,.ah,.av [.int .i64 3,.str ⟨#[102]⟩,.int .i64 0,.int .i64 0,.str ⟨#[]⟩,.ah,.str ⟨#[]⟩,.ah,.av [.bool true,.str ⟨#[97]⟩,.ah,.int .i64 0,.int .i64 0,.str ⟨#[]⟩,.ah] 1,.ah,.ah] 1,.str ⟨#[102]⟩,.av [.str ⟨#[109]⟩,.bool true] 1,.av [.int .i64 5,.str ⟨#[]⟩,.int .i64 0,.int .i64 0,.str ⟨#[]⟩,.ah,.str ⟨#[109]⟩,.ah,.ah,.ah,.ah,.int .i64 5,.str ⟨#[]⟩,.int .i64 0,.int .i64 0,.str ⟨#[]⟩,.ah,.str ⟨#[109]⟩,.ah,.ah,.ah,.ah] 2] 2],.int .i64 72,.int .i64 0]
set_option maxRecDepth 1000000 in
theorem J6:ae Tryz.prog 43 J8 E6:=eM (I:=LB [(66,Bs,Bq),(66,Br,Bp)]) (vok (by
  intro x hx
  simp only[List.mem_cons,List.not_mem_nil,or_false] at hx
  rcases hx with rfl | rfl
  ·exact E5
  ·exact E4)) 300 yAb
end Go.Proofs.YtmnglemlimfpbaaGreat
