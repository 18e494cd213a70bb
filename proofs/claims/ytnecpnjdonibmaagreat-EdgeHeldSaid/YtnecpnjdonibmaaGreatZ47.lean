/- Functions of the sanity check, run. -/
import Derived.Test.YtnecpnjdonibmaaGreatZ46
namespace Go.Proofs.YtnecpnjdonibmaaGreat
open Go.Can
def GL:List CV:=[.aA [.int .u8 109,.int .u8 117,.int .u8 116,.int .u8 101,.int .u8 120,.int .u8 32,.int .u8 97,.int .u8 59,.int .u8 32,.int .u8 109,.int .u8 117,.int .u8 116,.int .u8 101,.int .u8 120,.int .u8 32,.int .u8 98,.int .u8 59,.int .u8 32,.int .u8 102,.int .u8 117,.int .u8 110,.int .u8 99,.int .u8 32,.int .u8 109,.int .u8 97,.int .u8 105,.int .u8 110,.int .u8 40,.int .u8 41,.int .u8 32,.int .u8 123,.int .u8 32,.int .u8 108,.int .u8 111,.int .u8 99,.int .u8 107,.int .u8 32,.int .u8 97,.int .u8 59,.int .u8 32,.int .u8 108,.int .u8 111,.int .u8 99,.int .u8 107,.int .u8 32,.int .u8 98,.int .u8 59,.int .u8 32,.int .u8 117,.int .u8 110,.int .u8 108,.int .u8 111,.int .u8 99,.int .u8 107,.int .u8 32,.int .u8 98,.int .u8 59,.int .u8 32,.int .u8 117,.int .u8 110,.int .u8 108,.int .u8 111,.int .u8 99,.int .u8 107,.int .u8 32,.int .u8 97,.int .u8 59,.int .u8 32,.int .u8 125] 69]
def GD:CV:=.dS [.agg [.aa,.aA [.str ⟨#[97]⟩,.bool false,.int .i64 0,.str ⟨#[98]⟩,.bool false,.int .i64 0] 2,.aA [.str ⟨#[109,97,105,110]⟩,.aa,.aA [.int .i64 5,.str ⟨#[]⟩,.int .i64 0,.int .i64 0,.str ⟨#[]⟩,.aa,.str ⟨#[97]⟩,.aa,.aa,.aa,.aa,.int .i64 5,.str ⟨#[]⟩,.int .i64 0,.int .i64 0,.str ⟨#[]⟩,.aa,.str ⟨#[98]⟩,.aa,.aa,.aa,.aa,.int .i64 6,.str ⟨#[]⟩,.int .i64 0,.int .i64 0,.str ⟨#[]⟩,.aa,.str ⟨#[98]⟩,.aa,.aa,.aa,.aa,.int .i64 6,.str ⟨#[]⟩,.int .i64 0,.int .i64 0,.str ⟨#[]⟩,.aa,.str ⟨#[97]⟩,.aa,.aa,.aa,.aa] 4] 1],.int .i64 69,.int .i64 0]
set_option maxRecDepth 1000000 in
theorem Ma:af Tryz.prog 86 GL GD:=cS (I:=wK [(158,yF,yq),(158,yE,yp)]) (yx (by
  intro x hx;simp only[List.mem_cons,List.not_mem_nil,or_false] at hx;rcases hx with rfl | rfl
  ·exact Dk
  ·exact Dj)) 300 OV
def Du:List CV:=[.agg [.aa,.aA [.str ⟨#[97]⟩,.bool false,.int .i64 0,.str ⟨#[98]⟩,.bool false,.int .i64 0] 2,.aA [.str ⟨#[109,97,105,110]⟩,.aa,.aA [.int .i64 5,.str ⟨#[]⟩,.int .i64 0,.int .i64 0,.str ⟨#[]⟩,.aa,.str ⟨#[97]⟩,.aa,.aa,.aa,.aa,.int .i64 5,.str ⟨#[]⟩,.int .i64 0,.int .i64 0,.str ⟨#[]⟩,.aa,.str ⟨#[98]⟩,.aa,.aa,.aa,.aa,.int .i64 6,.str ⟨#[]⟩,.int .i64 0,.int .i64 0,.str ⟨#[]⟩,.aa,.str ⟨#[98]⟩,.aa,.aa,.aa,.aa,.int .i64 6,.str ⟨#[]⟩,.int .i64 0,.int .i64 0,.str ⟨#[]⟩,.aa,.str ⟨#[97]⟩,.aa,.aa,.aa,.aa] 4] 1]]
def Dq:CV:=.str ⟨#[109,117,116,101,120,32,97,59,10,109,117,116,101,120,32,98,59,10,102,117,110,99,32,109,97,105,110,40,41,32,123,10,9,108,111,99,107,32,97,59,10,9,108,111,99,107,32,98,59,10,9,117,110,108,111,99,107,32,98,59,10,9,117,110,108,111,99,107,32,97,59,10,125,10]⟩
set_option maxRecDepth 1000000 in
theorem JP:af Tryz.prog 202 Du Dq:=cS (I:=wK []) (yx OU) 300 OV
def Dv:List CV:=[.agg [.aa,.aA [.str ⟨#[97]⟩,.bool false,.int .i64 0,.str ⟨#[98]⟩,.bool false,.int .i64 0] 2,.aA [.str ⟨#[109,97,105,110]⟩,.aa,.aA [.int .i64 5,.str ⟨#[]⟩,.int .i64 0,.int .i64 0,.str ⟨#[]⟩,.aa,.str ⟨#[97]⟩,.aa,.aa,.aa,.aa,.int .i64 5,.str ⟨#[]⟩,.int .i64 0,.int .i64 0,.str ⟨#[]⟩,.aa,.str ⟨#[98]⟩,.aa,.aa,.aa,.aa,.int .i64 6,.str ⟨#[]⟩,.int .i64 0,.int .i64 0,.str ⟨#[]⟩,.aa,.str ⟨#[98]⟩,.aa,.aa,.aa,.aa,.int .i64 6,.str ⟨#[]⟩,.int .i64 0,.int .i64 0,.str ⟨#[]⟩,.aa,.str ⟨#[97]⟩,.aa,.aa,.aa,.aa] 4] 1]]
def Dr:CV:=.bool true
set_option maxRecDepth 1000000 in
theorem JQ:af Tryz.prog 133 Dv Dr:=cS (I:=wK [(158,yF,yq),(158,yE,yp),(202,Du,Dq)]) (yx (by
  intro x hx;simp only[List.mem_cons,List.not_mem_nil,or_false] at hx;rcases hx with rfl | rfl | rfl
  ·exact Dk
  ·exact Dj
  ·exact JP)) 300 OV
def GN:List CV:=[.agg [.aa,.aA [.str ⟨#[97]⟩,.bool false,.int .i64 0,.str ⟨#[98]⟩,.bool false,.int .i64 0] 2,.aA [.str ⟨#[109,97,105,110]⟩,.aa,.aA [.int .i64 5,.str ⟨#[]⟩,.int .i64 0,.int .i64 0,.str ⟨#[]⟩,.aa,.str ⟨#[97]⟩,.aa,.aa,.aa,.aa,.int .i64 5,.str ⟨#[]⟩,.int .i64 0,.int .i64 0,.str ⟨#[]⟩,.aa,.str ⟨#[98]⟩,.aa,.aa,.aa,.aa,.int .i64 6,.str ⟨#[]⟩,.int .i64 0,.int .i64 0,.str ⟨#[]⟩,.aa,.str ⟨#[98]⟩,.aa,.aa,.aa,.aa,.int .i64 6,.str ⟨#[]⟩,.int .i64 0,.int .i64 0,.str ⟨#[]⟩,.aa,.str ⟨#[97]⟩,.aa,.aa,.aa,.aa] 4] 1]]
def GG:CV:=.dS [.agg [.aa,.aA [.str ⟨#[97]⟩,.bool false,.int .i64 0,.str ⟨#[98]⟩,.bool false,.int .i64 0] 2,.aA [.str ⟨#[109,97,105,110]⟩,.int .i64 0,.int .i64 0,.int .i64 0,.aA [.int .i64 4,.int .i64 0,.bool false,.int .i64 0,.int .i64 0,.str ⟨#[]⟩,.aa,.bool false,.int .i64 0,.aa,.aa,.aa,.int .i64 4,.int .i64 0,.bool false,.int .i64 0,.int .i64 0,.str ⟨#[]⟩,.aa,.bool false,.int .i64 1,.aa,.aa,.aa,.int .i64 5,.int .i64 0,.bool false,.int .i64 0,.int .i64 0,.str ⟨#[]⟩,.aa,.bool false,.int .i64 1,.aa,.aa,.aa,.int .i64 5,.int .i64 0,.bool false,.int .i64 0,.int .i64 0,.str ⟨#[]⟩,.aa,.bool false,.int .i64 0,.aa,.aa,.aa,.int .i64 8,.int .i64 0,.bool false,.int .i64 0,.int .i64 0,.str ⟨#[]⟩,.aa,.bool false,.int .i64 0,.aa,.aa,.aa] 5] 1,.int .i64 0],.int .i64 0,.int .i64 0,.int .i64 0]
set_option maxRecDepth 1000000 in
theorem Mc:af Tryz.prog 68 GN GG:=cS (I:=wK [(133,Dv,Dr)]) (yx (by
  intro x hx;simp only[List.mem_cons,List.not_mem_nil,or_false] at hx;rcases hx with rfl
  ·exact JQ)) 300 OV
def GM:List CV:=[.agg [.aa,.aA [.str ⟨#[97]⟩,.bool false,.int .i64 0,.str ⟨#[98]⟩,.bool false,.int .i64 0] 2,.aA [.str ⟨#[109,97,105,110]⟩,.int .i64 0,.int .i64 0,.int .i64 0,.aA [.int .i64 4,.int .i64 0,.bool false,.int .i64 0,.int .i64 0,.str ⟨#[]⟩,.aa,.bool false,.int .i64 0,.aa,.aa,.aa,.int .i64 4,.int .i64 0,.bool false,.int .i64 0,.int .i64 0,.str ⟨#[]⟩,.aa,.bool false,.int .i64 1,.aa,.aa,.aa,.int .i64 5,.int .i64 0,.bool false,.int .i64 0,.int .i64 0,.str ⟨#[]⟩,.aa,.bool false,.int .i64 1,.aa,.aa,.aa,.int .i64 5,.int .i64 0,.bool false,.int .i64 0,.int .i64 0,.str ⟨#[]⟩,.aa,.bool false,.int .i64 0,.aa,.aa,.aa,.int .i64 8,.int .i64 0,.bool false,.int .i64 0,.int .i64 0,.str ⟨#[]⟩,.aa,.bool false,.int .i64 0,.aa,.aa,.aa] 5] 1,.int .i64 0]]
def GF:CV:=.dS [.agg [.aA [.int .i64 0,.aa] 1,.aA [.aA [.int .i64 (-1),.int .i64 (-1),.int .i64 (-1),.int .i64 (-1),.int .i64 (-1)] 5] 1,.aA [.int .i64 0] 1],.int .i64 0]
set_option maxRecDepth 1000000 in
theorem Mb:af Tryz.prog 69 GM GF:=cS (I:=wK []) (yx OU) 300 OV
end Go.Proofs.YtnecpnjdonibmaaGreat
