/- Functions, run. -/
import Derived.Test.YtniilppjegieaaaGreatY1
namespace Go.Proofs.YtniilppjegieaaaGreat
open Go.Can

def b86_0 : List CV := [.agg [.nilsl, .tsl [.str ⟨#[97]⟩, .bool false, .int .i64 0, .str ⟨#[98]⟩, .bool false, .int .i64 0] 2, .tsl [.str ⟨#[109, 97, 105, 110]⟩, .int .i64 0, .int .i64 0, .int .i64 0, .tsl [.int .i64 4, .int .i64 0, .bool false, .int .i64 0, .int .i64 0, .str ⟨#[]⟩, .nilsl, .bool false, .int .i64 0, .nilsl, .nilsl, .nilsl, .int .i64 4, .int .i64 0, .bool false, .int .i64 0, .int .i64 0, .str ⟨#[]⟩, .nilsl, .bool false, .int .i64 1, .nilsl, .nilsl, .nilsl, .int .i64 5, .int .i64 0, .bool false, .int .i64 0, .int .i64 0, .str ⟨#[]⟩, .nilsl, .bool false, .int .i64 1, .nilsl, .nilsl, .nilsl, .int .i64 5, .int .i64 0, .bool false, .int .i64 0, .int .i64 0, .str ⟨#[]⟩, .nilsl, .bool false, .int .i64 0, .nilsl, .nilsl, .nilsl, .int .i64 8, .int .i64 0, .bool false, .int .i64 0, .int .i64 0, .str ⟨#[]⟩, .nilsl, .bool false, .int .i64 0, .nilsl, .nilsl, .nilsl] 5] 1, .int .i64 0], .agg [.tsl [.int .i64 0, .nilsl] 1, .tsl [.tsl [.int .i64 (-1), .int .i64 (-1), .int .i64 (-1), .int .i64 (-1), .int .i64 (-1)] 5] 1, .tsl [.int .i64 0] 1], .int .i64 0]
def q86_0 : CV := .tsl [.tsl [.int .i64 1, .int .i64 0] 2] 1
set_option maxRecDepth 1000000 in
theorem y86_0 : PureCall Tryz.prog 86 b86_0 q86_0 := pureX (I := yip []) (yok (by simp)) 300 (by kernel_rfl)

def b86_1 : List CV := [.agg [.nilsl, .tsl [.str ⟨#[97]⟩, .bool false, .int .i64 0, .str ⟨#[98]⟩, .bool false, .int .i64 0] 2, .tsl [.str ⟨#[109, 97, 105, 110]⟩, .int .i64 0, .int .i64 0, .int .i64 0, .tsl [.int .i64 4, .int .i64 0, .bool false, .int .i64 0, .int .i64 0, .str ⟨#[]⟩, .nilsl, .bool false, .int .i64 0, .nilsl, .nilsl, .nilsl, .int .i64 4, .int .i64 0, .bool false, .int .i64 0, .int .i64 0, .str ⟨#[]⟩, .nilsl, .bool false, .int .i64 1, .nilsl, .nilsl, .nilsl, .int .i64 5, .int .i64 0, .bool false, .int .i64 0, .int .i64 0, .str ⟨#[]⟩, .nilsl, .bool false, .int .i64 1, .nilsl, .nilsl, .nilsl, .int .i64 5, .int .i64 0, .bool false, .int .i64 0, .int .i64 0, .str ⟨#[]⟩, .nilsl, .bool false, .int .i64 0, .nilsl, .nilsl, .nilsl, .int .i64 8, .int .i64 0, .bool false, .int .i64 0, .int .i64 0, .str ⟨#[]⟩, .nilsl, .bool false, .int .i64 0, .nilsl, .nilsl, .nilsl] 5] 1, .int .i64 0], .agg [.tsl [.int .i64 0, .nilsl] 1, .tsl [.tsl [.int .i64 (-1), .int .i64 (-1), .int .i64 (-1), .int .i64 (-1), .int .i64 (-1)] 5] 1, .tsl [.int .i64 0] 1], .int .i64 1]
def q86_1 : CV := .tsl [.tsl [.int .i64 1, .int .i64 0] 2] 1
set_option maxRecDepth 1000000 in
theorem y86_1 : PureCall Tryz.prog 86 b86_1 q86_1 := pureX (I := yip []) (yok (by simp)) 300 (by kernel_rfl)
end Go.Proofs.YtniilppjegieaaaGreat

/- Functions, run. -/
namespace Go.Proofs.YtniilppjegieaaaGreat
open Go.Can

def b83_0 : List CV := [.agg [.nilsl, .tsl [.str ⟨#[97]⟩, .bool false, .int .i64 0, .str ⟨#[98]⟩, .bool false, .int .i64 0] 2, .tsl [.str ⟨#[109, 97, 105, 110]⟩, .int .i64 0, .int .i64 0, .int .i64 0, .tsl [.int .i64 4, .int .i64 0, .bool false, .int .i64 0, .int .i64 0, .str ⟨#[]⟩, .nilsl, .bool false, .int .i64 0, .nilsl, .nilsl, .nilsl, .int .i64 4, .int .i64 0, .bool false, .int .i64 0, .int .i64 0, .str ⟨#[]⟩, .nilsl, .bool false, .int .i64 1, .nilsl, .nilsl, .nilsl, .int .i64 5, .int .i64 0, .bool false, .int .i64 0, .int .i64 0, .str ⟨#[]⟩, .nilsl, .bool false, .int .i64 1, .nilsl, .nilsl, .nilsl, .int .i64 5, .int .i64 0, .bool false, .int .i64 0, .int .i64 0, .str ⟨#[]⟩, .nilsl, .bool false, .int .i64 0, .nilsl, .nilsl, .nilsl, .int .i64 8, .int .i64 0, .bool false, .int .i64 0, .int .i64 0, .str ⟨#[]⟩, .nilsl, .bool false, .int .i64 0, .nilsl, .nilsl, .nilsl] 5] 1, .int .i64 0], .agg [.tsl [.int .i64 0, .nilsl] 1, .tsl [.tsl [.int .i64 (-1), .int .i64 (-1), .int .i64 (-1), .int .i64 (-1), .int .i64 (-1)] 5] 1, .tsl [.int .i64 0] 1], .int .i64 0]
def q83_0 : CV := .agg [.tsl [.tsl [.int .i64 1, .int .i64 0] 2] 1, .tsl [.tsl [.tsl [.int .i64 1, .int .i64 2] 2, .tsl [.int .i64 2, .int .i64 0] 2, .tsl [.int .i64 2, .int .i64 0] 2, .tsl [.int .i64 2, .int .i64 0] 2, .tsl [.int .i64 1, .int .i64 0] 2] 5] 1, .tsl [.int .i64 1] 1]
set_option maxRecDepth 1000000 in
theorem y83_0 : PureCall Tryz.prog 83 b83_0 q83_0 := pureX (I := yip [(86, b86_0, q86_0)]) (yok (by
    intro x hx
    simp only [List.mem_cons, List.not_mem_nil, or_false] at hx
    rcases hx with rfl
    · exact y86_0)) 300 (by kernel_rfl)

def b83_1 : List CV := [.agg [.nilsl, .tsl [.str ⟨#[97]⟩, .bool false, .int .i64 0, .str ⟨#[98]⟩, .bool false, .int .i64 0] 2, .tsl [.str ⟨#[109, 97, 105, 110]⟩, .int .i64 0, .int .i64 0, .int .i64 0, .tsl [.int .i64 4, .int .i64 0, .bool false, .int .i64 0, .int .i64 0, .str ⟨#[]⟩, .nilsl, .bool false, .int .i64 0, .nilsl, .nilsl, .nilsl, .int .i64 4, .int .i64 0, .bool false, .int .i64 0, .int .i64 0, .str ⟨#[]⟩, .nilsl, .bool false, .int .i64 1, .nilsl, .nilsl, .nilsl, .int .i64 5, .int .i64 0, .bool false, .int .i64 0, .int .i64 0, .str ⟨#[]⟩, .nilsl, .bool false, .int .i64 1, .nilsl, .nilsl, .nilsl, .int .i64 5, .int .i64 0, .bool false, .int .i64 0, .int .i64 0, .str ⟨#[]⟩, .nilsl, .bool false, .int .i64 0, .nilsl, .nilsl, .nilsl, .int .i64 8, .int .i64 0, .bool false, .int .i64 0, .int .i64 0, .str ⟨#[]⟩, .nilsl, .bool false, .int .i64 0, .nilsl, .nilsl, .nilsl] 5] 1, .int .i64 0], .agg [.tsl [.int .i64 0, .nilsl] 1, .tsl [.tsl [.int .i64 (-1), .int .i64 (-1), .int .i64 (-1), .int .i64 (-1), .int .i64 (-1)] 5] 1, .tsl [.int .i64 0] 1], .int .i64 1]
def q83_1 : CV := .agg [.tsl [.tsl [.int .i64 1, .int .i64 0] 2] 1, .tsl [.tsl [.tsl [.int .i64 1, .int .i64 2] 2, .tsl [.int .i64 1, .int .i64 2] 2, .tsl [.int .i64 2, .int .i64 0] 2, .tsl [.int .i64 1, .int .i64 0] 2, .tsl [.int .i64 1, .int .i64 0] 2] 5] 1, .tsl [.int .i64 1] 1]
set_option maxRecDepth 1000000 in
theorem y83_1 : PureCall Tryz.prog 83 b83_1 q83_1 := pureX (I := yip [(86, b86_1, q86_1)]) (yok (by
    intro x hx
    simp only [List.mem_cons, List.not_mem_nil, or_false] at hx
    rcases hx with rfl
    · exact y86_1)) 300 (by kernel_rfl)

def b50_0 : List CV := [.agg [.nilsl, .tsl [.str ⟨#[97]⟩, .bool false, .int .i64 0, .str ⟨#[98]⟩, .bool false, .int .i64 0] 2, .tsl [.str ⟨#[109, 97, 105, 110]⟩, .int .i64 0, .int .i64 0, .int .i64 0, .tsl [.int .i64 4, .int .i64 0, .bool false, .int .i64 0, .int .i64 0, .str ⟨#[]⟩, .nilsl, .bool false, .int .i64 0, .nilsl, .nilsl, .nilsl, .int .i64 4, .int .i64 0, .bool false, .int .i64 0, .int .i64 0, .str ⟨#[]⟩, .nilsl, .bool false, .int .i64 1, .nilsl, .nilsl, .nilsl, .int .i64 5, .int .i64 0, .bool false, .int .i64 0, .int .i64 0, .str ⟨#[]⟩, .nilsl, .bool false, .int .i64 1, .nilsl, .nilsl, .nilsl, .int .i64 5, .int .i64 0, .bool false, .int .i64 0, .int .i64 0, .str ⟨#[]⟩, .nilsl, .bool false, .int .i64 0, .nilsl, .nilsl, .nilsl, .int .i64 8, .int .i64 0, .bool false, .int .i64 0, .int .i64 0, .str ⟨#[]⟩, .nilsl, .bool false, .int .i64 0, .nilsl, .nilsl, .nilsl] 5] 1, .int .i64 0], .agg [.tsl [.int .i64 0, .nilsl] 1, .tsl [.tsl [.int .i64 (-1), .int .i64 (-1), .int .i64 (-1), .int .i64 (-1), .int .i64 (-1)] 5] 1, .tsl [.int .i64 0] 1], .int .i64 0]
def q50_0 : CV := .tsl [.tsl [.int .i64 1, .int .i64 2, .int .i64 2, .int .i64 2, .int .i64 1] 5] 1
set_option maxRecDepth 1000000 in
theorem y50_0 : PureCall Tryz.prog 50 b50_0 q50_0 := pureX (I := yip [(83, b83_0, q83_0), (86, b86_0, q86_0)]) (yok (by
    intro x hx
    simp only [List.mem_cons, List.not_mem_nil, or_false] at hx
    rcases hx with rfl | rfl
    · exact y83_0
    · exact y86_0)) 300 (by kernel_rfl)

def b50_1 : List CV := [.agg [.nilsl, .tsl [.str ⟨#[97]⟩, .bool false, .int .i64 0, .str ⟨#[98]⟩, .bool false, .int .i64 0] 2, .tsl [.str ⟨#[109, 97, 105, 110]⟩, .int .i64 0, .int .i64 0, .int .i64 0, .tsl [.int .i64 4, .int .i64 0, .bool false, .int .i64 0, .int .i64 0, .str ⟨#[]⟩, .nilsl, .bool false, .int .i64 0, .nilsl, .nilsl, .nilsl, .int .i64 4, .int .i64 0, .bool false, .int .i64 0, .int .i64 0, .str ⟨#[]⟩, .nilsl, .bool false, .int .i64 1, .nilsl, .nilsl, .nilsl, .int .i64 5, .int .i64 0, .bool false, .int .i64 0, .int .i64 0, .str ⟨#[]⟩, .nilsl, .bool false, .int .i64 1, .nilsl, .nilsl, .nilsl, .int .i64 5, .int .i64 0, .bool false, .int .i64 0, .int .i64 0, .str ⟨#[]⟩, .nilsl, .bool false, .int .i64 0, .nilsl, .nilsl, .nilsl, .int .i64 8, .int .i64 0, .bool false, .int .i64 0, .int .i64 0, .str ⟨#[]⟩, .nilsl, .bool false, .int .i64 0, .nilsl, .nilsl, .nilsl] 5] 1, .int .i64 0], .agg [.tsl [.int .i64 0, .nilsl] 1, .tsl [.tsl [.int .i64 (-1), .int .i64 (-1), .int .i64 (-1), .int .i64 (-1), .int .i64 (-1)] 5] 1, .tsl [.int .i64 0] 1], .int .i64 1]
def q50_1 : CV := .tsl [.tsl [.int .i64 1, .int .i64 1, .int .i64 2, .int .i64 1, .int .i64 1] 5] 1
set_option maxRecDepth 1000000 in
theorem y50_1 : PureCall Tryz.prog 50 b50_1 q50_1 := pureX (I := yip [(83, b83_1, q83_1), (86, b86_1, q86_1)]) (yok (by
    intro x hx
    simp only [List.mem_cons, List.not_mem_nil, or_false] at hx
    rcases hx with rfl | rfl
    · exact y83_1
    · exact y86_1)) 300 (by kernel_rfl)
end Go.Proofs.YtniilppjegieaaaGreat
