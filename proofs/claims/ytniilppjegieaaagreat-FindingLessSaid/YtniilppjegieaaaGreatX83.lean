/- Functions, run. -/
import Derived.Test.YtniilppjegieaaaGreatX86
namespace Go.Proofs.YtniilppjegieaaaGreat
open Go.Can

def a83_0 : List CV := [.agg [.nilsl, .tsl [.str ⟨#[97]⟩, .bool false, .int .i64 0, .str ⟨#[114]⟩, .bool true, .int .i64 0] 2, .tsl [.str ⟨#[109, 97, 105, 110]⟩, .int .i64 0, .int .i64 0, .int .i64 0, .tsl [.int .i64 4, .int .i64 0, .bool false, .int .i64 0, .int .i64 0, .str ⟨#[]⟩, .nilsl, .bool false, .int .i64 0, .nilsl, .nilsl, .nilsl, .int .i64 4, .int .i64 0, .bool false, .int .i64 0, .int .i64 0, .str ⟨#[]⟩, .nilsl, .bool false, .int .i64 0, .nilsl, .nilsl, .nilsl, .int .i64 5, .int .i64 0, .bool false, .int .i64 0, .int .i64 0, .str ⟨#[]⟩, .nilsl, .bool false, .int .i64 1, .nilsl, .nilsl, .nilsl, .int .i64 8, .int .i64 0, .bool false, .int .i64 0, .int .i64 0, .str ⟨#[]⟩, .nilsl, .bool false, .int .i64 0, .nilsl, .nilsl, .nilsl] 4] 1, .int .i64 0], .agg [.tsl [.int .i64 0, .nilsl] 1, .tsl [.tsl [.int .i64 (-1), .int .i64 (-1), .int .i64 (-1), .int .i64 (-1)] 4] 1, .tsl [.int .i64 0] 1], .int .i64 0]
def r83_0 : CV := .agg [.tsl [.tsl [.int .i64 0, .int .i64 0] 2] 1, .tsl [.tsl [.tsl [.int .i64 1, .int .i64 2] 2, .tsl [.int .i64 2, .int .i64 0] 2, .tsl [.int .i64 0, .int .i64 0] 2, .tsl [.int .i64 0, .int .i64 0] 2] 4] 1, .tsl [.int .i64 1] 1]
set_option maxRecDepth 1000000 in
theorem x83_0 : PureCall Tryz.prog 83 a83_0 r83_0 := pureX (I := xip [(86, a86_0, r86_0)]) (xok (by
    intro x hx
    simp only [List.mem_cons, List.not_mem_nil, or_false] at hx
    rcases hx with rfl
    · exact x86_0)) 300 (by kernel_rfl)

def a83_1 : List CV := [.agg [.nilsl, .tsl [.str ⟨#[97]⟩, .bool false, .int .i64 0, .str ⟨#[114]⟩, .bool true, .int .i64 0] 2, .tsl [.str ⟨#[109, 97, 105, 110]⟩, .int .i64 0, .int .i64 0, .int .i64 0, .tsl [.int .i64 4, .int .i64 0, .bool false, .int .i64 0, .int .i64 0, .str ⟨#[]⟩, .nilsl, .bool false, .int .i64 0, .nilsl, .nilsl, .nilsl, .int .i64 4, .int .i64 0, .bool false, .int .i64 0, .int .i64 0, .str ⟨#[]⟩, .nilsl, .bool false, .int .i64 0, .nilsl, .nilsl, .nilsl, .int .i64 5, .int .i64 0, .bool false, .int .i64 0, .int .i64 0, .str ⟨#[]⟩, .nilsl, .bool false, .int .i64 1, .nilsl, .nilsl, .nilsl, .int .i64 8, .int .i64 0, .bool false, .int .i64 0, .int .i64 0, .str ⟨#[]⟩, .nilsl, .bool false, .int .i64 0, .nilsl, .nilsl, .nilsl] 4] 1, .int .i64 0], .agg [.tsl [.int .i64 0, .nilsl] 1, .tsl [.tsl [.int .i64 (-1), .int .i64 (-1), .int .i64 (-1), .int .i64 (-1)] 4] 1, .tsl [.int .i64 0] 1], .int .i64 1]
def r83_1 : CV := .agg [.tsl [.tsl [.int .i64 0, .int .i64 1, .int .i64 2, .int .i64 4, .int .i64 8, .int .i64 16, .int .i64 32, .int .i64 64, .int .i64 128] 9] 1, .tsl [.tsl [.tsl [.int .i64 1, .int .i64 2, .int .i64 4, .int .i64 8, .int .i64 16, .int .i64 32, .int .i64 64, .int .i64 128, .int .i64 256] 9, .tsl [.int .i64 1, .int .i64 2, .int .i64 4, .int .i64 8, .int .i64 16, .int .i64 32, .int .i64 64, .int .i64 128, .int .i64 256] 9, .tsl [.int .i64 1, .int .i64 2, .int .i64 4, .int .i64 8, .int .i64 16, .int .i64 32, .int .i64 64, .int .i64 128, .int .i64 256] 9, .tsl [.int .i64 0, .int .i64 1, .int .i64 2, .int .i64 4, .int .i64 8, .int .i64 16, .int .i64 32, .int .i64 64, .int .i64 128] 9] 4] 1, .tsl [.int .i64 1] 1]
set_option maxRecDepth 1000000 in
theorem x83_1 : PureCall Tryz.prog 83 a83_1 r83_1 := pureX (I := xip [(86, a86_1, r86_1)]) (xok (by
    intro x hx
    simp only [List.mem_cons, List.not_mem_nil, or_false] at hx
    rcases hx with rfl
    · exact x86_1)) 300 (by kernel_rfl)

def a50_0 : List CV := [.agg [.nilsl, .tsl [.str ⟨#[97]⟩, .bool false, .int .i64 0, .str ⟨#[114]⟩, .bool true, .int .i64 0] 2, .tsl [.str ⟨#[109, 97, 105, 110]⟩, .int .i64 0, .int .i64 0, .int .i64 0, .tsl [.int .i64 4, .int .i64 0, .bool false, .int .i64 0, .int .i64 0, .str ⟨#[]⟩, .nilsl, .bool false, .int .i64 0, .nilsl, .nilsl, .nilsl, .int .i64 4, .int .i64 0, .bool false, .int .i64 0, .int .i64 0, .str ⟨#[]⟩, .nilsl, .bool false, .int .i64 0, .nilsl, .nilsl, .nilsl, .int .i64 5, .int .i64 0, .bool false, .int .i64 0, .int .i64 0, .str ⟨#[]⟩, .nilsl, .bool false, .int .i64 1, .nilsl, .nilsl, .nilsl, .int .i64 8, .int .i64 0, .bool false, .int .i64 0, .int .i64 0, .str ⟨#[]⟩, .nilsl, .bool false, .int .i64 0, .nilsl, .nilsl, .nilsl] 4] 1, .int .i64 0], .agg [.tsl [.int .i64 0, .nilsl] 1, .tsl [.tsl [.int .i64 (-1), .int .i64 (-1), .int .i64 (-1), .int .i64 (-1)] 4] 1, .tsl [.int .i64 0] 1], .int .i64 0]
def r50_0 : CV := .tsl [.tsl [.int .i64 1, .int .i64 2, .int .i64 0, .int .i64 0] 4] 1
set_option maxRecDepth 1000000 in
theorem x50_0 : PureCall Tryz.prog 50 a50_0 r50_0 := pureX (I := xip [(83, a83_0, r83_0), (86, a86_0, r86_0)]) (xok (by
    intro x hx
    simp only [List.mem_cons, List.not_mem_nil, or_false] at hx
    rcases hx with rfl | rfl
    · exact x83_0
    · exact x86_0)) 300 (by kernel_rfl)

def a50_1 : List CV := [.agg [.nilsl, .tsl [.str ⟨#[97]⟩, .bool false, .int .i64 0, .str ⟨#[114]⟩, .bool true, .int .i64 0] 2, .tsl [.str ⟨#[109, 97, 105, 110]⟩, .int .i64 0, .int .i64 0, .int .i64 0, .tsl [.int .i64 4, .int .i64 0, .bool false, .int .i64 0, .int .i64 0, .str ⟨#[]⟩, .nilsl, .bool false, .int .i64 0, .nilsl, .nilsl, .nilsl, .int .i64 4, .int .i64 0, .bool false, .int .i64 0, .int .i64 0, .str ⟨#[]⟩, .nilsl, .bool false, .int .i64 0, .nilsl, .nilsl, .nilsl, .int .i64 5, .int .i64 0, .bool false, .int .i64 0, .int .i64 0, .str ⟨#[]⟩, .nilsl, .bool false, .int .i64 1, .nilsl, .nilsl, .nilsl, .int .i64 8, .int .i64 0, .bool false, .int .i64 0, .int .i64 0, .str ⟨#[]⟩, .nilsl, .bool false, .int .i64 0, .nilsl, .nilsl, .nilsl] 4] 1, .int .i64 0], .agg [.tsl [.int .i64 0, .nilsl] 1, .tsl [.tsl [.int .i64 (-1), .int .i64 (-1), .int .i64 (-1), .int .i64 (-1)] 4] 1, .tsl [.int .i64 0] 1], .int .i64 1]
def r50_1 : CV := .tsl [.tsl [.int .i64 1, .int .i64 1, .int .i64 1, .int .i64 0] 4] 1
set_option maxRecDepth 1000000 in
theorem x50_1 : PureCall Tryz.prog 50 a50_1 r50_1 := pureX (I := xip [(83, a83_1, r83_1), (86, a86_1, r86_1)]) (xok (by
    intro x hx
    simp only [List.mem_cons, List.not_mem_nil, or_false] at hx
    rcases hx with rfl | rfl
    · exact x83_1
    · exact x86_1)) 300 (by kernel_rfl)
end Go.Proofs.YtniilppjegieaaaGreat
