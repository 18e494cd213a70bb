/- Functions of the sanity check, run. -/
import Derived.Test.YtnecpnjdonibmaaGreatZ47
namespace Go.Proofs.YtnecpnjdonibmaaGreat
open Go.Can
def yH:List CV:=[.agg [.aa,.aA [.str ⟨#[97]⟩,.bool false,.int .i64 0,.str ⟨#[98]⟩,.bool false,.int .i64 0] 2,.aA [.str ⟨#[109,97,105,110]⟩,.int .i64 0,.int .i64 0,.int .i64 0,.aA [.int .i64 4,.int .i64 0,.bool false,.int .i64 0,.int .i64 0,.str ⟨#[]⟩,.aa,.bool false,.int .i64 0,.aa,.aa,.aa,.int .i64 4,.int .i64 0,.bool false,.int .i64 0,.int .i64 0,.str ⟨#[]⟩,.aa,.bool false,.int .i64 1,.aa,.aa,.aa,.int .i64 5,.int .i64 0,.bool false,.int .i64 0,.int .i64 0,.str ⟨#[]⟩,.aa,.bool false,.int .i64 1,.aa,.aa,.aa,.int .i64 5,.int .i64 0,.bool false,.int .i64 0,.int .i64 0,.str ⟨#[]⟩,.aa,.bool false,.int .i64 0,.aa,.aa,.aa,.int .i64 8,.int .i64 0,.bool false,.int .i64 0,.int .i64 0,.str ⟨#[]⟩,.aa,.bool false,.int .i64 0,.aa,.aa,.aa] 5] 1,.int .i64 0],.agg [.aA [.int .i64 0,.aa] 1,.aA [.aA [.int .i64 (-1),.int .i64 (-1),.int .i64 (-1),.int .i64 (-1),.int .i64 (-1)] 5] 1,.aA [.int .i64 0] 1],.int .i64 0]
def yu:CV:=.aA [.aA [.int .i64 1,.int .i64 0] 2] 1
set_option maxRecDepth 1000000 in
theorem Dm:af Tryz.prog 112 yH yu:=cS (I:=wK []) (yx OU) 300 OV
def yG:List CV:=[.agg [.aa,.aA [.str ⟨#[97]⟩,.bool false,.int .i64 0,.str ⟨#[98]⟩,.bool false,.int .i64 0] 2,.aA [.str ⟨#[109,97,105,110]⟩,.int .i64 0,.int .i64 0,.int .i64 0,.aA [.int .i64 4,.int .i64 0,.bool false,.int .i64 0,.int .i64 0,.str ⟨#[]⟩,.aa,.bool false,.int .i64 0,.aa,.aa,.aa,.int .i64 4,.int .i64 0,.bool false,.int .i64 0,.int .i64 0,.str ⟨#[]⟩,.aa,.bool false,.int .i64 1,.aa,.aa,.aa,.int .i64 5,.int .i64 0,.bool false,.int .i64 0,.int .i64 0,.str ⟨#[]⟩,.aa,.bool false,.int .i64 1,.aa,.aa,.aa,.int .i64 5,.int .i64 0,.bool false,.int .i64 0,.int .i64 0,.str ⟨#[]⟩,.aa,.bool false,.int .i64 0,.aa,.aa,.aa,.int .i64 8,.int .i64 0,.bool false,.int .i64 0,.int .i64 0,.str ⟨#[]⟩,.aa,.bool false,.int .i64 0,.aa,.aa,.aa] 5] 1,.int .i64 0],.agg [.aA [.int .i64 0,.aa] 1,.aA [.aA [.int .i64 (-1),.int .i64 (-1),.int .i64 (-1),.int .i64 (-1),.int .i64 (-1)] 5] 1,.aA [.int .i64 0] 1],.int .i64 1]
def yr:CV:=.aA [.aA [.int .i64 1,.int .i64 0] 2] 1
set_option maxRecDepth 1000000 in
theorem Dl:af Tryz.prog 112 yG yr:=cS (I:=wK []) (yx OU) 300 OV
def yz:List CV:=[.agg [.aa,.aA [.str ⟨#[97]⟩,.bool false,.int .i64 0,.str ⟨#[98]⟩,.bool false,.int .i64 0] 2,.aA [.str ⟨#[109,97,105,110]⟩,.int .i64 0,.int .i64 0,.int .i64 0,.aA [.int .i64 4,.int .i64 0,.bool false,.int .i64 0,.int .i64 0,.str ⟨#[]⟩,.aa,.bool false,.int .i64 0,.aa,.aa,.aa,.int .i64 4,.int .i64 0,.bool false,.int .i64 0,.int .i64 0,.str ⟨#[]⟩,.aa,.bool false,.int .i64 1,.aa,.aa,.aa,.int .i64 5,.int .i64 0,.bool false,.int .i64 0,.int .i64 0,.str ⟨#[]⟩,.aa,.bool false,.int .i64 1,.aa,.aa,.aa,.int .i64 5,.int .i64 0,.bool false,.int .i64 0,.int .i64 0,.str ⟨#[]⟩,.aa,.bool false,.int .i64 0,.aa,.aa,.aa,.int .i64 8,.int .i64 0,.bool false,.int .i64 0,.int .i64 0,.str ⟨#[]⟩,.aa,.bool false,.int .i64 0,.aa,.aa,.aa] 5] 1,.int .i64 0],.agg [.aA [.int .i64 0,.aa] 1,.aA [.aA [.int .i64 (-1),.int .i64 (-1),.int .i64 (-1),.int .i64 (-1),.int .i64 (-1)] 5] 1,.aA [.int .i64 0] 1],.int .i64 0]
def yo:CV:=.agg [.aA [.aA [.int .i64 1,.int .i64 0] 2] 1,.aA [.aA [.aA [.int .i64 1,.int .i64 2] 2,.aA [.int .i64 2,.int .i64 0] 2,.aA [.int .i64 2,.int .i64 0] 2,.aA [.int .i64 2,.int .i64 0] 2,.aA [.int .i64 1,.int .i64 0] 2] 5] 1,.aA [.int .i64 1] 1]
set_option maxRecDepth 1000000 in
theorem Di:af Tryz.prog 175 yz yo:=cS (I:=wK [(112,yH,yu),(112,yG,yr)]) (yx (by
  intro x hx;simp only[List.mem_cons,List.not_mem_nil,or_false] at hx;rcases hx with rfl | rfl
  ·exact Dm
  ·exact Dl)) 300 OV
def yy:List CV:=[.agg [.aa,.aA [.str ⟨#[97]⟩,.bool false,.int .i64 0,.str ⟨#[98]⟩,.bool false,.int .i64 0] 2,.aA [.str ⟨#[109,97,105,110]⟩,.int .i64 0,.int .i64 0,.int .i64 0,.aA [.int .i64 4,.int .i64 0,.bool false,.int .i64 0,.int .i64 0,.str ⟨#[]⟩,.aa,.bool false,.int .i64 0,.aa,.aa,.aa,.int .i64 4,.int .i64 0,.bool false,.int .i64 0,.int .i64 0,.str ⟨#[]⟩,.aa,.bool false,.int .i64 1,.aa,.aa,.aa,.int .i64 5,.int .i64 0,.bool false,.int .i64 0,.int .i64 0,.str ⟨#[]⟩,.aa,.bool false,.int .i64 1,.aa,.aa,.aa,.int .i64 5,.int .i64 0,.bool false,.int .i64 0,.int .i64 0,.str ⟨#[]⟩,.aa,.bool false,.int .i64 0,.aa,.aa,.aa,.int .i64 8,.int .i64 0,.bool false,.int .i64 0,.int .i64 0,.str ⟨#[]⟩,.aa,.bool false,.int .i64 0,.aa,.aa,.aa] 5] 1,.int .i64 0],.agg [.aA [.int .i64 0,.aa] 1,.aA [.aA [.int .i64 (-1),.int .i64 (-1),.int .i64 (-1),.int .i64 (-1),.int .i64 (-1)] 5] 1,.aA [.int .i64 0] 1],.int .i64 1]
def yn:CV:=.agg [.aA [.aA [.int .i64 1,.int .i64 0] 2] 1,.aA [.aA [.aA [.int .i64 1,.int .i64 2] 2,.aA [.int .i64 1,.int .i64 2] 2,.aA [.int .i64 2,.int .i64 0] 2,.aA [.int .i64 1,.int .i64 0] 2,.aA [.int .i64 1,.int .i64 0] 2] 5] 1,.aA [.int .i64 1] 1]
set_option maxRecDepth 1000000 in
theorem Dh:af Tryz.prog 175 yy yn:=cS (I:=wK [(112,yH,yu),(112,yG,yr)]) (yx (by
  intro x hx;simp only[List.mem_cons,List.not_mem_nil,or_false] at hx;rcases hx with rfl | rfl
  ·exact Dm
  ·exact Dl)) 300 OV
def yJ:List CV:=[.agg [.aa,.aA [.str ⟨#[97]⟩,.bool false,.int .i64 0,.str ⟨#[98]⟩,.bool false,.int .i64 0] 2,.aA [.str ⟨#[109,97,105,110]⟩,.int .i64 0,.int .i64 0,.int .i64 0,.aA [.int .i64 4,.int .i64 0,.bool false,.int .i64 0,.int .i64 0,.str ⟨#[]⟩,.aa,.bool false,.int .i64 0,.aa,.aa,.aa,.int .i64 4,.int .i64 0,.bool false,.int .i64 0,.int .i64 0,.str ⟨#[]⟩,.aa,.bool false,.int .i64 1,.aa,.aa,.aa,.int .i64 5,.int .i64 0,.bool false,.int .i64 0,.int .i64 0,.str ⟨#[]⟩,.aa,.bool false,.int .i64 1,.aa,.aa,.aa,.int .i64 5,.int .i64 0,.bool false,.int .i64 0,.int .i64 0,.str ⟨#[]⟩,.aa,.bool false,.int .i64 0,.aa,.aa,.aa,.int .i64 8,.int .i64 0,.bool false,.int .i64 0,.int .i64 0,.str ⟨#[]⟩,.aa,.bool false,.int .i64 0,.aa,.aa,.aa] 5] 1,.int .i64 0],.agg [.aA [.int .i64 0,.aa] 1,.aA [.aA [.int .i64 (-1),.int .i64 (-1),.int .i64 (-1),.int .i64 (-1),.int .i64 (-1)] 5] 1,.aA [.int .i64 0] 1],.int .i64 0]
def yw:CV:=.aA [.aA [.int .i64 1,.int .i64 2,.int .i64 2,.int .i64 2,.int .i64 1] 5] 1
set_option maxRecDepth 1000000 in
theorem Dp:af Tryz.prog 107 yJ yw:=cS (I:=wK [(175,yz,yo),(175,yy,yn)]) (yx (by
  intro x hx;simp only[List.mem_cons,List.not_mem_nil,or_false] at hx;rcases hx with rfl | rfl
  ·exact Di
  ·exact Dh)) 300 OV
def yI:List CV:=[.agg [.aa,.aA [.str ⟨#[97]⟩,.bool false,.int .i64 0,.str ⟨#[98]⟩,.bool false,.int .i64 0] 2,.aA [.str ⟨#[109,97,105,110]⟩,.int .i64 0,.int .i64 0,.int .i64 0,.aA [.int .i64 4,.int .i64 0,.bool false,.int .i64 0,.int .i64 0,.str ⟨#[]⟩,.aa,.bool false,.int .i64 0,.aa,.aa,.aa,.int .i64 4,.int .i64 0,.bool false,.int .i64 0,.int .i64 0,.str ⟨#[]⟩,.aa,.bool false,.int .i64 1,.aa,.aa,.aa,.int .i64 5,.int .i64 0,.bool false,.int .i64 0,.int .i64 0,.str ⟨#[]⟩,.aa,.bool false,.int .i64 1,.aa,.aa,.aa,.int .i64 5,.int .i64 0,.bool false,.int .i64 0,.int .i64 0,.str ⟨#[]⟩,.aa,.bool false,.int .i64 0,.aa,.aa,.aa,.int .i64 8,.int .i64 0,.bool false,.int .i64 0,.int .i64 0,.str ⟨#[]⟩,.aa,.bool false,.int .i64 0,.aa,.aa,.aa] 5] 1,.int .i64 0],.agg [.aA [.int .i64 0,.aa] 1,.aA [.aA [.int .i64 (-1),.int .i64 (-1),.int .i64 (-1),.int .i64 (-1),.int .i64 (-1)] 5] 1,.aA [.int .i64 0] 1],.int .i64 1]
def yv:CV:=.aA [.aA [.int .i64 1,.int .i64 1,.int .i64 2,.int .i64 1,.int .i64 1] 5] 1
set_option maxRecDepth 1000000 in
theorem Dn:af Tryz.prog 107 yI yv:=cS (I:=wK [(175,yz,yo),(175,yy,yn)]) (yx (by
  intro x hx;simp only[List.mem_cons,List.not_mem_nil,or_false] at hx;rcases hx with rfl | rfl
  ·exact Di
  ·exact Dh)) 300 OV
def GK:List CV:=[.agg [.aa,.aA [.str ⟨#[97]⟩,.bool false,.int .i64 0,.str ⟨#[98]⟩,.bool false,.int .i64 0] 2,.aA [.str ⟨#[109,97,105,110]⟩,.int .i64 0,.int .i64 0,.int .i64 0,.aA [.int .i64 4,.int .i64 0,.bool false,.int .i64 0,.int .i64 0,.str ⟨#[]⟩,.aa,.bool false,.int .i64 0,.aa,.aa,.aa,.int .i64 4,.int .i64 0,.bool false,.int .i64 0,.int .i64 0,.str ⟨#[]⟩,.aa,.bool false,.int .i64 1,.aa,.aa,.aa,.int .i64 5,.int .i64 0,.bool false,.int .i64 0,.int .i64 0,.str ⟨#[]⟩,.aa,.bool false,.int .i64 1,.aa,.aa,.aa,.int .i64 5,.int .i64 0,.bool false,.int .i64 0,.int .i64 0,.str ⟨#[]⟩,.aa,.bool false,.int .i64 0,.aa,.aa,.aa,.int .i64 8,.int .i64 0,.bool false,.int .i64 0,.int .i64 0,.str ⟨#[]⟩,.aa,.bool false,.int .i64 0,.aa,.aa,.aa] 5] 1,.int .i64 0],.agg [.aA [.int .i64 0,.aa] 1,.aA [.aA [.int .i64 (-1),.int .i64 (-1),.int .i64 (-1),.int .i64 (-1),.int .i64 (-1)] 5] 1,.aA [.int .i64 0] 1]]
def GC:CV:=.aA [.aA [.aA [.int .i64 1,.int .i64 2,.int .i64 2,.int .i64 2,.int .i64 1] 5] 1,.aA [.aA [.int .i64 1,.int .i64 1,.int .i64 2,.int .i64 1,.int .i64 1] 5] 1] 2
set_option maxRecDepth 1000000 in
theorem L9:af Tryz.prog 97 GK GC:=cS (I:=wK [(107,yJ,yw),(107,yI,yv)]) (yx (by
  intro x hx;simp only[List.mem_cons,List.not_mem_nil,or_false] at hx;rcases hx with rfl | rfl
  ·exact Dp
  ·exact Dn)) 300 OV
def GJ:List CV:=[.agg [.aa,.aA [.str ⟨#[97]⟩,.bool false,.int .i64 0,.str ⟨#[98]⟩,.bool false,.int .i64 0] 2,.aA [.str ⟨#[109,97,105,110]⟩,.int .i64 0,.int .i64 0,.int .i64 0,.aA [.int .i64 4,.int .i64 0,.bool false,.int .i64 0,.int .i64 0,.str ⟨#[]⟩,.aa,.bool false,.int .i64 0,.aa,.aa,.aa,.int .i64 4,.int .i64 0,.bool false,.int .i64 0,.int .i64 0,.str ⟨#[]⟩,.aa,.bool false,.int .i64 1,.aa,.aa,.aa,.int .i64 5,.int .i64 0,.bool false,.int .i64 0,.int .i64 0,.str ⟨#[]⟩,.aa,.bool false,.int .i64 1,.aa,.aa,.aa,.int .i64 5,.int .i64 0,.bool false,.int .i64 0,.int .i64 0,.str ⟨#[]⟩,.aa,.bool false,.int .i64 0,.aa,.aa,.aa,.int .i64 8,.int .i64 0,.bool false,.int .i64 0,.int .i64 0,.str ⟨#[]⟩,.aa,.bool false,.int .i64 0,.aa,.aa,.aa] 5] 1,.int .i64 0],.agg [.aA [.int .i64 0,.aa] 1,.aA [.aA [.int .i64 (-1),.int .i64 (-1),.int .i64 (-1),.int .i64 (-1),.int .i64 (-1)] 5] 1,.aA [.int .i64 0] 1]]
def GB:CV:=.aA [.int .i64 0,.int .i64 0,.int .i64 0,.int .i64 0,.int .i64 1,.int .i64 1] 2
set_option maxRecDepth 1000000 in
theorem L7:af Tryz.prog 98 GJ GB:=cS (I:=wK []) (yx OU) 300 OV
def GP:List CV:=[.agg [.aa,.aA [.str ⟨#[97]⟩,.bool false,.int .i64 0,.str ⟨#[98]⟩,.bool false,.int .i64 0] 2,.aA [.str ⟨#[109,97,105,110]⟩,.int .i64 0,.int .i64 0,.int .i64 0,.aA [.int .i64 4,.int .i64 0,.bool false,.int .i64 0,.int .i64 0,.str ⟨#[]⟩,.aa,.bool false,.int .i64 0,.aa,.aa,.aa,.int .i64 4,.int .i64 0,.bool false,.int .i64 0,.int .i64 0,.str ⟨#[]⟩,.aa,.bool false,.int .i64 1,.aa,.aa,.aa,.int .i64 5,.int .i64 0,.bool false,.int .i64 0,.int .i64 0,.str ⟨#[]⟩,.aa,.bool false,.int .i64 1,.aa,.aa,.aa,.int .i64 5,.int .i64 0,.bool false,.int .i64 0,.int .i64 0,.str ⟨#[]⟩,.aa,.bool false,.int .i64 0,.aa,.aa,.aa,.int .i64 8,.int .i64 0,.bool false,.int .i64 0,.int .i64 0,.str ⟨#[]⟩,.aa,.bool false,.int .i64 0,.aa,.aa,.aa] 5] 1,.int .i64 0],.agg [.aA [.int .i64 0,.aa] 1,.aA [.aA [.int .i64 (-1),.int .i64 (-1),.int .i64 (-1),.int .i64 (-1),.int .i64 (-1)] 5] 1,.aA [.int .i64 0] 1]]
def GI:CV:=.aA [.int .i64 0,.int .i64 1,.int .i64 0,.int .i64 1] 1
set_option maxRecDepth 1000000 in
theorem Mf:af Tryz.prog 33 GP GI:=cS (I:=wK [(97,GK,GC),(98,GJ,GB)]) (yx (by
  intro x hx;simp only[List.mem_cons,List.not_mem_nil,or_false] at hx;rcases hx with rfl | rfl
  ·exact L9
  ·exact L7)) 300 OV
def GO:List CV:=[.agg [.aa,.aA [.str ⟨#[97]⟩,.bool false,.int .i64 0,.str ⟨#[98]⟩,.bool false,.int .i64 0] 2,.aA [.str ⟨#[109,97,105,110]⟩,.int .i64 0,.int .i64 0,.int .i64 0,.aA [.int .i64 4,.int .i64 0,.bool false,.int .i64 0,.int .i64 0,.str ⟨#[]⟩,.aa,.bool false,.int .i64 0,.aa,.aa,.aa,.int .i64 4,.int .i64 0,.bool false,.int .i64 0,.int .i64 0,.str ⟨#[]⟩,.aa,.bool false,.int .i64 1,.aa,.aa,.aa,.int .i64 5,.int .i64 0,.bool false,.int .i64 0,.int .i64 0,.str ⟨#[]⟩,.aa,.bool false,.int .i64 1,.aa,.aa,.aa,.int .i64 5,.int .i64 0,.bool false,.int .i64 0,.int .i64 0,.str ⟨#[]⟩,.aa,.bool false,.int .i64 0,.aa,.aa,.aa,.int .i64 8,.int .i64 0,.bool false,.int .i64 0,.int .i64 0,.str ⟨#[]⟩,.aa,.bool false,.int .i64 0,.aa,.aa,.aa] 5] 1,.int .i64 0],.agg [.aA [.int .i64 0,.aa] 1,.aA [.aA [.int .i64 (-1),.int .i64 (-1),.int .i64 (-1),.int .i64 (-1),.int .i64 (-1)] 5] 1,.aA [.int .i64 0] 1],.int .i64 0,.int .i64 1]
def GH:CV:=.dS [.aA [.int .i64 0] 1,.aA [.int .i64 0] 1]
set_option maxRecDepth 1000000 in
theorem Md:af Tryz.prog 37 GO GH:=cS (I:=wK [(107,yJ,yw),(107,yI,yv)]) (yx (by
  intro x hx;simp only[List.mem_cons,List.not_mem_nil,or_false] at hx;rcases hx with rfl | rfl
  ·exact Dp
  ·exact Dn)) 300 OV
def Dw:List CV:=[.aA [.int .i64 0,.int .i64 1,.int .i64 0,.int .i64 1] 1]
def Ds:CV:=.aA [.aA [.int .i64 0,.int .i64 1] 2] 1
set_option maxRecDepth 1000000 in
theorem JR:af Tryz.prog 106 Dw Ds:=cS (I:=wK []) (yx OU) 300 OV
def Mh:List CV:=[]
def Mg:CV:=.bool true
set_option maxRecDepth 1000000 in
theorem Me:af Tryz.prog 35 Mh Mg:=cS (I:=wK [(86,GL,GD),(68,GN,GG),(69,GM,GF),(33,GP,GI),(37,GO,GH),(106,Dw,Ds)]) (yx (by
  intro x hx;simp only[List.mem_cons,List.not_mem_nil,or_false] at hx;rcases hx with rfl | rfl | rfl | rfl | rfl | rfl
  ·exact Ma
  ·exact Mc
  ·exact Mb
  ·exact Mf
  ·exact Md
  ·exact JR)) 300 OV
end Go.Proofs.YtnecpnjdonibmaaGreat
