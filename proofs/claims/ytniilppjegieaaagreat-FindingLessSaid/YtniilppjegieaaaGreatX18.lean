/- Functions, run. -/
import Derived.Test.YtniilppjegieaaaGreatX1
namespace Go.Proofs.YtniilppjegieaaaGreat
open Go.Can

def a18 : List CV := [.agg [.nilsl, .tsl [.str ⟨#[97]⟩, .bool false, .int .i64 0, .str ⟨#[114]⟩, .bool true, .int .i64 0] 2, .tsl [.str ⟨#[109, 97, 105, 110]⟩, .nilsl, .tsl [.int .i64 5, .str ⟨#[]⟩, .int .i64 0, .int .i64 0, .str ⟨#[]⟩, .nilsl, .str ⟨#[97]⟩, .nilsl, .nilsl, .nilsl, .nilsl, .int .i64 5, .str ⟨#[]⟩, .int .i64 0, .int .i64 0, .str ⟨#[]⟩, .nilsl, .str ⟨#[97]⟩, .nilsl, .nilsl, .nilsl, .nilsl, .int .i64 6, .str ⟨#[]⟩, .int .i64 0, .int .i64 0, .str ⟨#[]⟩, .nilsl, .str ⟨#[114]⟩, .nilsl, .nilsl, .nilsl, .nilsl] 3] 1]]
def r18 : CV := .tup [.agg [.nilsl, .tsl [.str ⟨#[97]⟩, .bool false, .int .i64 0, .str ⟨#[114]⟩, .bool true, .int .i64 0] 2, .tsl [.str ⟨#[109, 97, 105, 110]⟩, .int .i64 0, .int .i64 0, .int .i64 0, .tsl [.int .i64 4, .int .i64 0, .bool false, .int .i64 0, .int .i64 0, .str ⟨#[]⟩, .nilsl, .bool false, .int .i64 0, .nilsl, .nilsl, .nilsl, .int .i64 4, .int .i64 0, .bool false, .int .i64 0, .int .i64 0, .str ⟨#[]⟩, .nilsl, .bool false, .int .i64 0, .nilsl, .nilsl, .nilsl, .int .i64 5, .int .i64 0, .bool false, .int .i64 0, .int .i64 0, .str ⟨#[]⟩, .nilsl, .bool false, .int .i64 1, .nilsl, .nilsl, .nilsl, .int .i64 8, .int .i64 0, .bool false, .int .i64 0, .int .i64 0, .str ⟨#[]⟩, .nilsl, .bool false, .int .i64 0, .nilsl, .nilsl, .nilsl] 4] 1, .int .i64 0], .int .i64 0, .int .i64 0, .int .i64 0]
set_option maxRecDepth 1000000 in
theorem x18 : PureCall Tryz.prog 18 a18 r18 := pureX (I := xip []) (xok (by simp)) 300 (by kernel_rfl)
end Go.Proofs.YtniilppjegieaaaGreat
