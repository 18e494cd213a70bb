/- Functions, run. -/
import Derived.Test.YtniilppjegieaaaGreatX86
import Derived.Test.YtniilppjegieaaaGreatX83
import Derived.Test.YtniilppjegieaaaGreatX17
import Derived.Test.YtniilppjegieaaaGreatX18
namespace Go.Proofs.YtniilppjegieaaaGreat
open Go.Can

def a19 : List CV := [.agg [.nilsl, .tsl [.str ⟨#[97]⟩, .bool false, .int .i64 0, .str ⟨#[114]⟩, .bool true, .int .i64 0] 2, .tsl [.str ⟨#[109, 97, 105, 110]⟩, .int .i64 0, .int .i64 0, .int .i64 0, .tsl [.int .i64 4, .int .i64 0, .bool false, .int .i64 0, .int .i64 0, .str ⟨#[]⟩, .nilsl, .bool false, .int .i64 0, .nilsl, .nilsl, .nilsl, .int .i64 4, .int .i64 0, .bool false, .int .i64 0, .int .i64 0, .str ⟨#[]⟩, .nilsl, .bool false, .int .i64 0, .nilsl, .nilsl, .nilsl, .int .i64 5, .int .i64 0, .bool false, .int .i64 0, .int .i64 0, .str ⟨#[]⟩, .nilsl, .bool false, .int .i64 1, .nilsl, .nilsl, .nilsl, .int .i64 8, .int .i64 0, .bool false, .int .i64 0, .int .i64 0, .str ⟨#[]⟩, .nilsl, .bool false, .int .i64 0, .nilsl, .nilsl, .nilsl] 4] 1, .int .i64 0]]
def r19 : CV := .tup [.agg [.tsl [.int .i64 0, .nilsl] 1, .tsl [.tsl [.int .i64 (-1), .int .i64 (-1), .int .i64 (-1), .int .i64 (-1)] 4] 1, .tsl [.int .i64 0] 1], .int .i64 0]
set_option maxRecDepth 1000000 in
theorem x19 : PureCall Tryz.prog 19 a19 r19 := pureX (I := xip []) (xok (by simp)) 300 (by kernel_rfl)

def a52 : List CV := [.agg [.nilsl, .tsl [.str ⟨#[97]⟩, .bool false, .int .i64 0, .str ⟨#[114]⟩, .bool true, .int .i64 0] 2, .tsl [.str ⟨#[109, 97, 105, 110]⟩, .int .i64 0, .int .i64 0, .int .i64 0, .tsl [.int .i64 4, .int .i64 0, .bool false, .int .i64 0, .int .i64 0, .str ⟨#[]⟩, .nilsl, .bool false, .int .i64 0, .nilsl, .nilsl, .nilsl, .int .i64 4, .int .i64 0, .bool false, .int .i64 0, .int .i64 0, .str ⟨#[]⟩, .nilsl, .bool false, .int .i64 0, .nilsl, .nilsl, .nilsl, .int .i64 5, .int .i64 0, .bool false, .int .i64 0, .int .i64 0, .str ⟨#[]⟩, .nilsl, .bool false, .int .i64 1, .nilsl, .nilsl, .nilsl, .int .i64 8, .int .i64 0, .bool false, .int .i64 0, .int .i64 0, .str ⟨#[]⟩, .nilsl, .bool false, .int .i64 0, .nilsl, .nilsl, .nilsl] 4] 1, .int .i64 0], .agg [.tsl [.int .i64 0, .nilsl] 1, .tsl [.tsl [.int .i64 (-1), .int .i64 (-1), .int .i64 (-1), .int .i64 (-1)] 4] 1, .tsl [.int .i64 0] 1]]
def r52 : CV := .nilsl
set_option maxRecDepth 1000000 in
theorem x52 : PureCall Tryz.prog 52 a52 r52 := pureX (I := xip [(86, a86_0, r86_0), (86, a86_1, r86_1)]) (xok (by
    intro x hx
    simp only [List.mem_cons, List.not_mem_nil, or_false] at hx
    rcases hx with rfl | rfl
    · exact x86_0
    · exact x86_1)) 300 (by kernel_rfl)

def a53 : List CV := [.agg [.nilsl, .tsl [.str ⟨#[97]⟩, .bool false, .int .i64 0, .str ⟨#[114]⟩, .bool true, .int .i64 0] 2, .tsl [.str ⟨#[109, 97, 105, 110]⟩, .int .i64 0, .int .i64 0, .int .i64 0, .tsl [.int .i64 4, .int .i64 0, .bool false, .int .i64 0, .int .i64 0, .str ⟨#[]⟩, .nilsl, .bool false, .int .i64 0, .nilsl, .nilsl, .nilsl, .int .i64 4, .int .i64 0, .bool false, .int .i64 0, .int .i64 0, .str ⟨#[]⟩, .nilsl, .bool false, .int .i64 0, .nilsl, .nilsl, .nilsl, .int .i64 5, .int .i64 0, .bool false, .int .i64 0, .int .i64 0, .str ⟨#[]⟩, .nilsl, .bool false, .int .i64 1, .nilsl, .nilsl, .nilsl, .int .i64 8, .int .i64 0, .bool false, .int .i64 0, .int .i64 0, .str ⟨#[]⟩, .nilsl, .bool false, .int .i64 0, .nilsl, .nilsl, .nilsl] 4] 1, .int .i64 0], .agg [.tsl [.int .i64 0, .nilsl] 1, .tsl [.tsl [.int .i64 (-1), .int .i64 (-1), .int .i64 (-1), .int .i64 (-1)] 4] 1, .tsl [.int .i64 0] 1]]
def r53 : CV := .tsl [.int .i64 2, .int .i64 0, .int .i64 2, .int .i64 1, .nilsl, .int .i64 3, .int .i64 0, .int .i64 1, .int .i64 0, .nilsl] 2
set_option maxRecDepth 1000000 in
theorem x53 : PureCall Tryz.prog 53 a53 r53 := pureX (I := xip [(50, a50_0, r50_0), (50, a50_1, r50_1)]) (xok (by
    intro x hx
    simp only [List.mem_cons, List.not_mem_nil, or_false] at hx
    rcases hx with rfl | rfl
    · exact x50_0
    · exact x50_1)) 300 (by kernel_rfl)

def a54 : List CV := [.agg [.nilsl, .tsl [.str ⟨#[97]⟩, .bool false, .int .i64 0, .str ⟨#[114]⟩, .bool true, .int .i64 0] 2, .tsl [.str ⟨#[109, 97, 105, 110]⟩, .int .i64 0, .int .i64 0, .int .i64 0, .tsl [.int .i64 4, .int .i64 0, .bool false, .int .i64 0, .int .i64 0, .str ⟨#[]⟩, .nilsl, .bool false, .int .i64 0, .nilsl, .nilsl, .nilsl, .int .i64 4, .int .i64 0, .bool false, .int .i64 0, .int .i64 0, .str ⟨#[]⟩, .nilsl, .bool false, .int .i64 0, .nilsl, .nilsl, .nilsl, .int .i64 5, .int .i64 0, .bool false, .int .i64 0, .int .i64 0, .str ⟨#[]⟩, .nilsl, .bool false, .int .i64 1, .nilsl, .nilsl, .nilsl, .int .i64 8, .int .i64 0, .bool false, .int .i64 0, .int .i64 0, .str ⟨#[]⟩, .nilsl, .bool false, .int .i64 0, .nilsl, .nilsl, .nilsl] 4] 1, .int .i64 0], .agg [.tsl [.int .i64 0, .nilsl] 1, .tsl [.tsl [.int .i64 (-1), .int .i64 (-1), .int .i64 (-1), .int .i64 (-1)] 4] 1, .tsl [.int .i64 0] 1]]
def r54 : CV := .nilsl
set_option maxRecDepth 1000000 in
theorem x54 : PureCall Tryz.prog 54 a54 r54 := pureX (I := xip [(50, a50_0, r50_0), (50, a50_1, r50_1)]) (xok (by
    intro x hx
    simp only [List.mem_cons, List.not_mem_nil, or_false] at hx
    rcases hx with rfl | rfl
    · exact x50_0
    · exact x50_1)) 300 (by kernel_rfl)

def a23 : List CV := [.agg [.nilsl, .tsl [.str ⟨#[97]⟩, .bool false, .int .i64 0, .str ⟨#[114]⟩, .bool true, .int .i64 0] 2, .tsl [.str ⟨#[109, 97, 105, 110]⟩, .int .i64 0, .int .i64 0, .int .i64 0, .tsl [.int .i64 4, .int .i64 0, .bool false, .int .i64 0, .int .i64 0, .str ⟨#[]⟩, .nilsl, .bool false, .int .i64 0, .nilsl, .nilsl, .nilsl, .int .i64 4, .int .i64 0, .bool false, .int .i64 0, .int .i64 0, .str ⟨#[]⟩, .nilsl, .bool false, .int .i64 0, .nilsl, .nilsl, .nilsl, .int .i64 5, .int .i64 0, .bool false, .int .i64 0, .int .i64 0, .str ⟨#[]⟩, .nilsl, .bool false, .int .i64 1, .nilsl, .nilsl, .nilsl, .int .i64 8, .int .i64 0, .bool false, .int .i64 0, .int .i64 0, .str ⟨#[]⟩, .nilsl, .bool false, .int .i64 0, .nilsl, .nilsl, .nilsl] 4] 1, .int .i64 0], .agg [.tsl [.int .i64 0, .nilsl] 1, .tsl [.tsl [.int .i64 (-1), .int .i64 (-1), .int .i64 (-1), .int .i64 (-1)] 4] 1, .tsl [.int .i64 0] 1]]
def r23 : CV := .tsl [.int .i64 2, .int .i64 0, .int .i64 2, .int .i64 1, .nilsl, .int .i64 3, .int .i64 0, .int .i64 1, .int .i64 0, .nilsl] 2
set_option maxRecDepth 1000000 in
theorem x23 : PureCall Tryz.prog 23 a23 r23 := pureX (I := xip [(52, a52, r52), (53, a53, r53), (54, a54, r54)]) (xok (by
    intro x hx
    simp only [List.mem_cons, List.not_mem_nil, or_false] at hx
    rcases hx with rfl | rfl | rfl
    · exact x52
    · exact x53
    · exact x54)) 300 (by kernel_rfl)

/-- The sanity check of the law: always true. -/
theorem c13_ok : PureCall Tryz.prog 13 [] (.bool true) := pureX (I := xip [(17, a17, r17), (18, a18, r18), (19, a19, r19), (23, a23, r23)]) (xok (by
    intro x hx
    simp only [List.mem_cons, List.not_mem_nil, or_false] at hx
    rcases hx with rfl | rfl | rfl | rfl
    · exact x17
    · exact x18
    · exact x19
    · exact x23)) 300 (by kernel_rfl)
end Go.Proofs.YtniilppjegieaaaGreat
