/- Functions, run. -/
import Derived.Test.YtniilppjegieaaaGreatX1
namespace Go.Proofs.YtniilppjegieaaaGreat
open Go.Can

def a86_0 : List CV := [.agg [.nilsl, .tsl [.str ⟨#[97]⟩, .bool false, .int .i64 0, .str ⟨#[114]⟩, .bool true, .int .i64 0] 2, .tsl [.str ⟨#[109, 97, 105, 110]⟩, .int .i64 0, .int .i64 0, .int .i64 0, .tsl [.int .i64 4, .int .i64 0, .bool false, .int .i64 0, .int .i64 0, .str ⟨#[]⟩, .nilsl, .bool false, .int .i64 0, .nilsl, .nilsl, .nilsl, .int .i64 4, .int .i64 0, .bool false, .int .i64 0, .int .i64 0, .str ⟨#[]⟩, .nilsl, .bool false, .int .i64 0, .nilsl, .nilsl, .nilsl, .int .i64 5, .int .i64 0, .bool false, .int .i64 0, .int .i64 0, .str ⟨#[]⟩, .nilsl, .bool false, .int .i64 1, .nilsl, .nilsl, .nilsl, .int .i64 8, .int .i64 0, .bool false, .int .i64 0, .int .i64 0, .str ⟨#[]⟩, .nilsl, .bool false, .int .i64 0, .nilsl, .nilsl, .nilsl] 4] 1, .int .i64 0], .agg [.tsl [.int .i64 0, .nilsl] 1, .tsl [.tsl [.int .i64 (-1), .int .i64 (-1), .int .i64 (-1), .int .i64 (-1)] 4] 1, .tsl [.int .i64 0] 1], .int .i64 0]
def r86_0 : CV := .tsl [.tsl [.int .i64 0, .int .i64 0] 2] 1
set_option maxRecDepth 1000000 in
theorem x86_0 : PureCall Tryz.prog 86 a86_0 r86_0 := pureX (I := xip []) (xok (by simp)) 300 (by kernel_rfl)

def a86_1 : List CV := [.agg [.nilsl, .tsl [.str ⟨#[97]⟩, .bool false, .int .i64 0, .str ⟨#[114]⟩, .bool true, .int .i64 0] 2, .tsl [.str ⟨#[109, 97, 105, 110]⟩, .int .i64 0, .int .i64 0, .int .i64 0, .tsl [.int .i64 4, .int .i64 0, .bool false, .int .i64 0, .int .i64 0, .str ⟨#[]⟩, .nilsl, .bool false, .int .i64 0, .nilsl, .nilsl, .nilsl, .int .i64 4, .int .i64 0, .bool false, .int .i64 0, .int .i64 0, .str ⟨#[]⟩, .nilsl, .bool false, .int .i64 0, .nilsl, .nilsl, .nilsl, .int .i64 5, .int .i64 0, .bool false, .int .i64 0, .int .i64 0, .str ⟨#[]⟩, .nilsl, .bool false, .int .i64 1, .nilsl, .nilsl, .nilsl, .int .i64 8, .int .i64 0, .bool false, .int .i64 0, .int .i64 0, .str ⟨#[]⟩, .nilsl, .bool false, .int .i64 0, .nilsl, .nilsl, .nilsl] 4] 1, .int .i64 0], .agg [.tsl [.int .i64 0, .nilsl] 1, .tsl [.tsl [.int .i64 (-1), .int .i64 (-1), .int .i64 (-1), .int .i64 (-1)] 4] 1, .tsl [.int .i64 0] 1], .int .i64 1]
def r86_1 : CV := .tsl [.tsl [.int .i64 0, .int .i64 1, .int .i64 2, .int .i64 4, .int .i64 8, .int .i64 16, .int .i64 32, .int .i64 64, .int .i64 128] 9] 1
set_option maxRecDepth 1000000 in
theorem x86_1 : PureCall Tryz.prog 86 a86_1 r86_1 := pureX (I := xip []) (xok (by simp)) 300 (by kernel_rfl)
end Go.Proofs.YtniilppjegieaaaGreat
