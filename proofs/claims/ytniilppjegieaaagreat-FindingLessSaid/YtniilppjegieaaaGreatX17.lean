/- Functions, run. -/
import Derived.Test.YtniilppjegieaaaGreatX1
namespace Go.Proofs.YtniilppjegieaaaGreat
open Go.Can

def a17 : List CV := [.tsl [.int .u8 109, .int .u8 117, .int .u8 116, .int .u8 101, .int .u8 120, .int .u8 32, .int .u8 97, .int .u8 59, .int .u8 32, .int .u8 114, .int .u8 109, .int .u8 117, .int .u8 116, .int .u8 101, .int .u8 120, .int .u8 32, .int .u8 114, .int .u8 59, .int .u8 32, .int .u8 102, .int .u8 117, .int .u8 110, .int .u8 99, .int .u8 32, .int .u8 109, .int .u8 97, .int .u8 105, .int .u8 110, .int .u8 40, .int .u8 41, .int .u8 32, .int .u8 123, .int .u8 32, .int .u8 108, .int .u8 111, .int .u8 99, .int .u8 107, .int .u8 32, .int .u8 97, .int .u8 59, .int .u8 32, .int .u8 108, .int .u8 111, .int .u8 99, .int .u8 107, .int .u8 32, .int .u8 97, .int .u8 59, .int .u8 32, .int .u8 117, .int .u8 110, .int .u8 108, .int .u8 111, .int .u8 99, .int .u8 107, .int .u8 32, .int .u8 114, .int .u8 59, .int .u8 32, .int .u8 125] 60]
def r17 : CV := .tup [.agg [.nilsl, .tsl [.str ⟨#[97]⟩, .bool false, .int .i64 0, .str ⟨#[114]⟩, .bool true, .int .i64 0] 2, .tsl [.str ⟨#[109, 97, 105, 110]⟩, .nilsl, .tsl [.int .i64 5, .str ⟨#[]⟩, .int .i64 0, .int .i64 0, .str ⟨#[]⟩, .nilsl, .str ⟨#[97]⟩, .nilsl, .nilsl, .nilsl, .nilsl, .int .i64 5, .str ⟨#[]⟩, .int .i64 0, .int .i64 0, .str ⟨#[]⟩, .nilsl, .str ⟨#[97]⟩, .nilsl, .nilsl, .nilsl, .nilsl, .int .i64 6, .str ⟨#[]⟩, .int .i64 0, .int .i64 0, .str ⟨#[]⟩, .nilsl, .str ⟨#[114]⟩, .nilsl, .nilsl, .nilsl, .nilsl] 3] 1], .int .i64 60, .int .i64 0]
set_option maxRecDepth 1000000 in
theorem x17 : PureCall Tryz.prog 17 a17 r17 := pureX (I := xip []) (xok (by simp)) 300 (by kernel_rfl)
end Go.Proofs.YtniilppjegieaaaGreat
