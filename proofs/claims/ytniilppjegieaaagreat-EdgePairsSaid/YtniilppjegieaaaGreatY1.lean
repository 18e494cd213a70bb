/- The interpreter's parameters for this program, and that they are right. -/
import Derived.Test.YtniilppjegieaaaGreatCan35
import Derived.Test.YtniilppjegieaaaGreatTab
namespace Go.Proofs.YtniilppjegieaaaGreat
open Go.Can

def yal : List Nat := [6, 7, 9, 14, 15, 17, 18, 19, 20, 21, 24, 25, 27, 28, 29, 31, 33, 34, 35, 36, 37, 38, 39, 40, 41, 44, 45, 46, 47, 50, 55, 64, 66, 67, 68, 69, 71, 72, 73, 74, 75, 76, 77, 78, 81, 82, 83, 84, 86, 95, 98, 100, 101, 104, 109, 110, 118, 119, 120, 121, 122, 124, 138, 142, 143, 144, 145, 166, 167, 168, 169, 170, 171, 172, 179, 180, 181, 200, 203]
def ynp : List Nat := [120, 126, 127, 156, 85]
def ymt : Meths := [(((267 : Nat), "lockorder/flow.next"), 203), (((266 : Nat), "lockorder/flow.next"), 202), (((265 : Nat), "lockorder/flow.next"), 201), (((263 : Nat), "lockorder/flow.next"), 200)]
def yor : List (Nat × List (Nat × OrcE)) := [
  (6, [(6, .old [] [0, 1, 2, 3, 4, 5, 6, 7] [8, 9])]),
  (14, [(6, .old [] [0, 1, 2, 3, 4, 5, 6, 7, 8] [])]),
  (17, [(13, .tr [0, 1, 2, 3, 4, 5, 6, 7] [(1, 4), (1, 3)])]),
  (18, [(9, .tr [0, 1, 2, 3, 4, 5, 6, 7, 8] [(5, 7), (4, 7), (2, 7), (2, 4), (1, 7), (1, 5), (1, 2)]), (17, .tr [0, 1, 2, 3, 4, 5, 6, 7, 8, 9, 10, 11, 12, 13, 14, 15, 16, 17] [(7, 13), (6, 13), (3, 13), (0, 13)])]),
  (19, [(6, .old [] [0, 1, 2, 3, 4, 5, 6, 7, 8, 9, 10, 11] []), (14, .tr [0, 1, 2, 3, 4, 5, 6, 7, 8, 9, 10, 11, 12, 13] [(7, 11), (5, 11), (2, 11), (0, 11)])]),
  (28, [(1, .old [] [0, 1, 2, 3, 4, 5, 6, 7, 8, 9, 10, 11, 12, 13, 14, 15, 16, 17, 18, 19, 20] [])]),
  (29, [(1, .tr [0, 1, 2, 3, 4, 5, 6, 7, 8, 9, 10, 11] [(9, 10), (7, 10), (3, 10)])]),
  (34, [(5, .old [] [0, 1, 2, 3, 4, 5, 6, 7, 8, 9, 10, 11, 12] [])]),
  (38, [(9, .old [] [0, 1, 2, 3, 4, 5, 6, 7, 8, 9, 10, 11, 12, 13, 14, 15] [16])]),
  (40, [(1, .tr [0, 1, 2, 3, 4, 5, 6] [(0, 3), (0, 1)]), (17, .tr [0, 1, 2, 3, 4, 5, 6, 7, 8, 9, 10, 11] [(7, 9)]), (18, .tr [0, 1, 2, 3, 4, 5, 6, 7, 8, 9, 10, 11, 12, 13, 14, 15, 16] [(12, 13), (8, 13), (4, 13)])]),
  (46, [(1, .old [] [0, 1, 2, 3, 4, 5, 6, 7, 8, 9, 10, 11, 12, 13, 14, 15, 16, 17, 18, 19, 20, 21, 22, 23, 24, 25, 26] [])]),
  (50, [(10, .tr [0, 1, 2, 3, 4, 5, 6, 7, 8, 9, 10, 11, 12, 13] [(3, 11)])]),
  (77, [(4, .tr [0, 1, 2, 3, 4, 5, 6, 7, 8, 9, 10] [(7, 9), (7, 8), (3, 8)])]),
  (78, [(1, .tr [0, 1, 2, 3, 4, 5, 6, 7, 8, 9, 10, 11, 12, 13, 14, 15, 16, 17, 18, 19, 20, 21] [(12, 14), (8, 14), (8, 12), (7, 14), (7, 12), (6, 14), (5, 14), (5, 7)])]),
  (83, [(1, .tr [0, 1, 2, 3, 4, 5, 6, 7, 8, 9, 10] [(7, 9), (5, 9), (3, 9), (3, 7), (3, 5), (1, 9), (1, 7), (0, 9), (0, 7)]), (5, .tr [0, 1, 2, 3, 4, 5, 6, 7, 8, 9, 10, 11, 12] [(1, 9), (1, 8)]), (17, .old [] [0, 1, 2, 3, 4, 5, 6, 7, 8, 9, 10, 11, 12] [])]),
  (109, [(1, .tr [0, 1, 2, 3, 4, 5, 6, 7, 8, 9, 10, 11, 12] [(6, 10), (5, 10), (3, 10)]), (3, .old [] [0, 1, 2, 3, 4, 5, 6, 7, 8, 9, 10, 11, 12, 13, 14, 15, 16] [])]),
  (121, [(5, .old [] [0, 1, 2, 3, 4, 5, 6, 7, 8, 9, 10, 11, 12, 13, 14, 15] [])]),
  (122, [(6, .old [] [0, 1, 2, 3, 4, 5, 6, 7, 8] [])]),
  (144, [(14, .tr [0, 1, 2, 3, 4, 5, 6, 7, 8, 9] [(3, 7)])]),
  (145, [(5, .old [] [0, 1, 2, 3, 4, 5, 6, 7, 8, 9, 10, 11] [12])]),
  (172, [(4, .old [] [0, 1, 2, 3, 4, 5, 6, 7, 8, 9] [])])]
def ybase : IP := ⟨tab, ymt, fun g => yal.contains g, fun g => !ynp.contains g, fun g id => match assoc yor g with
  | some l => assoc l id
  | none => none, [], [⟨39, 40, 4, pairB, .bool false⟩], [⟨25, rec4⟩]⟩
def yip (kns : List (FuncId × List CV × CV)) : IP := { ybase with kns := kns }
theorem ymtOk : methAll Tryz.prog ymt = true := by kernel_rfl
theorem ygd : gdAll Tryz.prog ybase yal = true := by kernel_rfl
theorem ymi : MIok Tryz.prog [⟨39, 40, 4, pairB, .bool false⟩] := by
  intro x hx
  simp only [List.mem_cons, List.not_mem_nil, or_false] at hx
  subst hx
  exact mapT_pair Tryz.underlying39 ⟨Tryz.underlying40, by kernel_rfl, by kernel_rfl, by kernel_rfl⟩ Tryz.underlying3 ⟨Tryz.prog.types.size - 1, by kernel_rfl⟩ ((isSome_of (by kernel_rfl)))
theorem yei : EIok Tryz.prog [⟨25, rec4⟩] := by
  intro x hx
  simp only [List.mem_cons, List.not_mem_nil, or_false] at hx
  subst hx
  exact eqT_rec4' (ti := 3) (by kernel_rfl) (by kernel_rfl) (by kernel_rfl) Tryz.underlying3 (by kernel_rfl)
theorem yok {kns : List (FuncId × List CV × CV)} (h : ∀ x ∈ kns, PureCall Tryz.prog x.1 x.2.1 x.2.2) : IOk Tryz.prog (yip kns) :=
  ⟨h, tabOk, methAll_ok ymtOk, ymi, yei, follows, gdAll_ok (l := yal) ((gdAll_kns ybase kns yal).trans ygd) fun g ha => by simpa [yip, ybase] using ha⟩
end Go.Proofs.YtniilppjegieaaaGreat
