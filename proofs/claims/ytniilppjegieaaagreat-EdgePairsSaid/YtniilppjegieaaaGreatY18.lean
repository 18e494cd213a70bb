/- Functions, run. -/
import Derived.Test.YtniilppjegieaaaGreatY17
import Derived.Test.YtniilppjegieaaaGreatY27
import Derived.Test.YtniilppjegieaaaGreatY86
namespace Go.Proofs.YtniilppjegieaaaGreat
open Go.Can

def b18 : List CV := [.agg [.nilsl, .tsl [.str ⟨#[97]⟩, .bool false, .int .i64 0, .str ⟨#[98]⟩, .bool false, .int .i64 0] 2, .tsl [.str ⟨#[109, 97, 105, 110]⟩, .nilsl, .tsl [.int .i64 5, .str ⟨#[]⟩, .int .i64 0, .int .i64 0, .str ⟨#[]⟩, .nilsl, .str ⟨#[97]⟩, .nilsl, .nilsl, .nilsl, .nilsl, .int .i64 5, .str ⟨#[]⟩, .int .i64 0, .int .i64 0, .str ⟨#[]⟩, .nilsl, .str ⟨#[98]⟩, .nilsl, .nilsl, .nilsl, .nilsl, .int .i64 6, .str ⟨#[]⟩, .int .i64 0, .int .i64 0, .str ⟨#[]⟩, .nilsl, .str ⟨#[98]⟩, .nilsl, .nilsl, .nilsl, .nilsl, .int .i64 6, .str ⟨#[]⟩, .int .i64 0, .int .i64 0, .str ⟨#[]⟩, .nilsl, .str ⟨#[97]⟩, .nilsl, .nilsl, .nilsl, .nilsl] 4] 1]]
def q18 : CV := .tup [.agg [.nilsl, .tsl [.str ⟨#[97]⟩, .bool false, .int .i64 0, .str ⟨#[98]⟩, .bool false, .int .i64 0] 2, .tsl [.str ⟨#[109, 97, 105, 110]⟩, .int .i64 0, .int .i64 0, .int .i64 0, .tsl [.int .i64 4, .int .i64 0, .bool false, .int .i64 0, .int .i64 0, .str ⟨#[]⟩, .nilsl, .bool false, .int .i64 0, .nilsl, .nilsl, .nilsl, .int .i64 4, .int .i64 0, .bool false, .int .i64 0, .int .i64 0, .str ⟨#[]⟩, .nilsl, .bool false, .int .i64 1, .nilsl, .nilsl, .nilsl, .int .i64 5, .int .i64 0, .bool false, .int .i64 0, .int .i64 0, .str ⟨#[]⟩, .nilsl, .bool false, .int .i64 1, .nilsl, .nilsl, .nilsl, .int .i64 5, .int .i64 0, .bool false, .int .i64 0, .int .i64 0, .str ⟨#[]⟩, .nilsl, .bool false, .int .i64 0, .nilsl, .nilsl, .nilsl, .int .i64 8, .int .i64 0, .bool false, .int .i64 0, .int .i64 0, .str ⟨#[]⟩, .nilsl, .bool false, .int .i64 0, .nilsl, .nilsl, .nilsl] 5] 1, .int .i64 0], .int .i64 0, .int .i64 0, .int .i64 0]
set_option maxRecDepth 1000000 in
theorem y18 : PureCall Tryz.prog 18 b18 q18 := pureX (I := yip [(40, b40, q40), (37, b37, q37), (38, b38, q38)]) (yok (by
    intro x hx
    simp only [List.mem_cons, List.not_mem_nil, or_false] at hx
    rcases hx with rfl | rfl | rfl
    · exact y40
    · exact y37
    · exact y38)) 300 (by kernel_rfl)
end Go.Proofs.YtniilppjegieaaaGreat

/- Functions, run. -/
namespace Go.Proofs.YtniilppjegieaaaGreat
open Go.Can

def b19 : List CV := [.agg [.nilsl, .tsl [.str ⟨#[97]⟩, .bool false, .int .i64 0, .str ⟨#[98]⟩, .bool false, .int .i64 0] 2, .tsl [.str ⟨#[109, 97, 105, 110]⟩, .int .i64 0, .int .i64 0, .int .i64 0, .tsl [.int .i64 4, .int .i64 0, .bool false, .int .i64 0, .int .i64 0, .str ⟨#[]⟩, .nilsl, .bool false, .int .i64 0, .nilsl, .nilsl, .nilsl, .int .i64 4, .int .i64 0, .bool false, .int .i64 0, .int .i64 0, .str ⟨#[]⟩, .nilsl, .bool false, .int .i64 1, .nilsl, .nilsl, .nilsl, .int .i64 5, .int .i64 0, .bool false, .int .i64 0, .int .i64 0, .str ⟨#[]⟩, .nilsl, .bool false, .int .i64 1, .nilsl, .nilsl, .nilsl, .int .i64 5, .int .i64 0, .bool false, .int .i64 0, .int .i64 0, .str ⟨#[]⟩, .nilsl, .bool false, .int .i64 0, .nilsl, .nilsl, .nilsl, .int .i64 8, .int .i64 0, .bool false, .int .i64 0, .int .i64 0, .str ⟨#[]⟩, .nilsl, .bool false, .int .i64 0, .nilsl, .nilsl, .nilsl] 5] 1, .int .i64 0]]
def q19 : CV := .tup [.agg [.tsl [.int .i64 0, .nilsl] 1, .tsl [.tsl [.int .i64 (-1), .int .i64 (-1), .int .i64 (-1), .int .i64 (-1), .int .i64 (-1)] 5] 1, .tsl [.int .i64 0] 1], .int .i64 0]
set_option maxRecDepth 1000000 in
theorem y19 : PureCall Tryz.prog 19 b19 q19 := pureX (I := yip []) (yok (by simp)) 300 (by kernel_rfl)

def b20 : List CV := [.agg [.nilsl, .tsl [.str ⟨#[97]⟩, .bool false, .int .i64 0, .str ⟨#[98]⟩, .bool false, .int .i64 0] 2, .tsl [.str ⟨#[109, 97, 105, 110]⟩, .int .i64 0, .int .i64 0, .int .i64 0, .tsl [.int .i64 4, .int .i64 0, .bool false, .int .i64 0, .int .i64 0, .str ⟨#[]⟩, .nilsl, .bool false, .int .i64 0, .nilsl, .nilsl, .nilsl, .int .i64 4, .int .i64 0, .bool false, .int .i64 0, .int .i64 0, .str ⟨#[]⟩, .nilsl, .bool false, .int .i64 1, .nilsl, .nilsl, .nilsl, .int .i64 5, .int .i64 0, .bool false, .int .i64 0, .int .i64 0, .str ⟨#[]⟩, .nilsl, .bool false, .int .i64 1, .nilsl, .nilsl, .nilsl, .int .i64 5, .int .i64 0, .bool false, .int .i64 0, .int .i64 0, .str ⟨#[]⟩, .nilsl, .bool false, .int .i64 0, .nilsl, .nilsl, .nilsl, .int .i64 8, .int .i64 0, .bool false, .int .i64 0, .int .i64 0, .str ⟨#[]⟩, .nilsl, .bool false, .int .i64 0, .nilsl, .nilsl, .nilsl] 5] 1, .int .i64 0], .agg [.tsl [.int .i64 0, .nilsl] 1, .tsl [.tsl [.int .i64 (-1), .int .i64 (-1), .int .i64 (-1), .int .i64 (-1), .int .i64 (-1)] 5] 1, .tsl [.int .i64 0] 1]]
def q20 : CV := .tsl [.int .i64 0, .int .i64 1, .int .i64 0, .int .i64 1] 1
set_option maxRecDepth 1000000 in
theorem y20 : PureCall Tryz.prog 20 b20 q20 := pureX (I := yip [(50, b50_0, q50_0), (50, b50_1, q50_1)]) (yok (by
    intro x hx
    simp only [List.mem_cons, List.not_mem_nil, or_false] at hx
    rcases hx with rfl | rfl
    · exact y50_0
    · exact y50_1)) 300 (by kernel_rfl)

def b21 : List CV := [.agg [.nilsl, .tsl [.str ⟨#[97]⟩, .bool false, .int .i64 0, .str ⟨#[98]⟩, .bool false, .int .i64 0] 2, .tsl [.str ⟨#[109, 97, 105, 110]⟩, .int .i64 0, .int .i64 0, .int .i64 0, .tsl [.int .i64 4, .int .i64 0, .bool false, .int .i64 0, .int .i64 0, .str ⟨#[]⟩, .nilsl, .bool false, .int .i64 0, .nilsl, .nilsl, .nilsl, .int .i64 4, .int .i64 0, .bool false, .int .i64 0, .int .i64 0, .str ⟨#[]⟩, .nilsl, .bool false, .int .i64 1, .nilsl, .nilsl, .nilsl, .int .i64 5, .int .i64 0, .bool false, .int .i64 0, .int .i64 0, .str ⟨#[]⟩, .nilsl, .bool false, .int .i64 1, .nilsl, .nilsl, .nilsl, .int .i64 5, .int .i64 0, .bool false, .int .i64 0, .int .i64 0, .str ⟨#[]⟩, .nilsl, .bool false, .int .i64 0, .nilsl, .nilsl, .nilsl, .int .i64 8, .int .i64 0, .bool false, .int .i64 0, .int .i64 0, .str ⟨#[]⟩, .nilsl, .bool false, .int .i64 0, .nilsl, .nilsl, .nilsl] 5] 1, .int .i64 0], .agg [.tsl [.int .i64 0, .nilsl] 1, .tsl [.tsl [.int .i64 (-1), .int .i64 (-1), .int .i64 (-1), .int .i64 (-1), .int .i64 (-1)] 5] 1, .tsl [.int .i64 0] 1], .int .i64 0, .int .i64 1]
def q21 : CV := .tup [.tsl [.int .i64 0] 1, .tsl [.int .i64 0] 1]
set_option maxRecDepth 1000000 in
theorem y21 : PureCall Tryz.prog 21 b21 q21 := pureX (I := yip [(50, b50_0, q50_0), (50, b50_1, q50_1)]) (yok (by
    intro x hx
    simp only [List.mem_cons, List.not_mem_nil, or_false] at hx
    rcases hx with rfl | rfl
    · exact y50_0
    · exact y50_1)) 300 (by kernel_rfl)

/-- The sanity check of the law: always true. -/
theorem c9_ok : PureCall Tryz.prog 9 [] (.bool true) := pureX (I := yip [(17, b17, q17), (18, b18, q18), (19, b19, q19), (20, b20, q20), (21, b21, q21)]) (yok (by
    intro x hx
    simp only [List.mem_cons, List.not_mem_nil, or_false] at hx
    rcases hx with rfl | rfl | rfl | rfl | rfl
    · exact y17
    · exact y18
    · exact y19
    · exact y20
    · exact y21)) 300 (by kernel_rfl)
end Go.Proofs.YtniilppjegieaaaGreat
