/- The types of this program that the walks ask for. -/
import Derived.Test.YtgiphneejidahaaCan14
import Derived.Test.YtgiphneejidahaaProg
import Derived.KernelRfl
namespace Go.Proofs.Ytgiphneejidahaa
open Go.Can
def tab : List (Nat × TI) := [
  (2, ⟨.int .i64, 1, 8, [.int .i64 0]⟩),
  (3, ⟨.int .i64, 1, 8, [.int .i64 0]⟩),
  (4, ⟨.bool, 1, 1, [.bool false]⟩),
  (5, ⟨.int .u8, 1, 1, [.int .u8 0]⟩),
  (9, ⟨.str, 1, 16, [.str ⟨#[]⟩]⟩),
  (21, ⟨.int .i32, 1, 4, [.int .i32 0]⟩),
  (22, ⟨.sl 3, 1, 24, [.nilsl]⟩),
  (24, ⟨.sl 22, 1, 24, [.nilsl]⟩),
  (33, ⟨.sl 35, 1, 24, [.nilsl]⟩),
  (35, ⟨.sl 4, 1, 24, [.nilsl]⟩),
  (38, ⟨.int .u64, 1, 8, [.int .u64 0]⟩),
  (50, ⟨.sl 35, 1, 24, [.nilsl]⟩),
  (54, ⟨.func, 1, 8, [.nilfn]⟩)]
set_option maxRecDepth 100000 in
theorem tabOk : TabOk Try.prog tab :=
  TabOk.cons (TIok.mk' (by kernel_rfl) (by kernel_rfl) rfl) <| TabOk.cons (TIok.mk' (by kernel_rfl) (by kernel_rfl) rfl) <| TabOk.cons (TIok.mk' (by kernel_rfl) (by kernel_rfl) rfl) <| TabOk.cons (TIok.mk' (by kernel_rfl) (by kernel_rfl) rfl) <| TabOk.cons (TIok.mk' (by kernel_rfl) (by kernel_rfl) rfl) <| TabOk.cons (TIok.mk' (by kernel_rfl) (by kernel_rfl) rfl) <| TabOk.cons (TIok.mk' (by kernel_rfl) (by kernel_rfl) rfl) <| TabOk.cons (TIok.mk' (by kernel_rfl) (by kernel_rfl) rfl) <| TabOk.cons (TIok.mk' (by kernel_rfl) (by kernel_rfl) rfl) <| TabOk.cons (TIok.mk' (by kernel_rfl) (by kernel_rfl) rfl) <| TabOk.cons (TIok.mk' (by kernel_rfl) (by kernel_rfl) rfl) <| TabOk.cons (TIok.mk' (by kernel_rfl) (by kernel_rfl) rfl) <| TabOk.cons (TIok.mk' (by kernel_rfl) (by kernel_rfl) rfl) <| TabOk.nil
@[simp] theorem tab2 : assoc tab 2 = some ⟨.int .i64, 1, 8, [.int .i64 0]⟩ := rfl
@[simp] theorem tab3 : assoc tab 3 = some ⟨.int .i64, 1, 8, [.int .i64 0]⟩ := rfl
@[simp] theorem tab4 : assoc tab 4 = some ⟨.bool, 1, 1, [.bool false]⟩ := rfl
@[simp] theorem tab5 : assoc tab 5 = some ⟨.int .u8, 1, 1, [.int .u8 0]⟩ := rfl
@[simp] theorem tab9 : assoc tab 9 = some ⟨.str, 1, 16, [.str ⟨#[]⟩]⟩ := rfl
@[simp] theorem tab21 : assoc tab 21 = some ⟨.int .i32, 1, 4, [.int .i32 0]⟩ := rfl
@[simp] theorem tab22 : assoc tab 22 = some ⟨.sl 3, 1, 24, [.nilsl]⟩ := rfl
@[simp] theorem tab24 : assoc tab 24 = some ⟨.sl 22, 1, 24, [.nilsl]⟩ := rfl
@[simp] theorem tab33 : assoc tab 33 = some ⟨.sl 35, 1, 24, [.nilsl]⟩ := rfl
@[simp] theorem tab35 : assoc tab 35 = some ⟨.sl 4, 1, 24, [.nilsl]⟩ := rfl
@[simp] theorem tab38 : assoc tab 38 = some ⟨.int .u64, 1, 8, [.int .u64 0]⟩ := rfl
@[simp] theorem tab50 : assoc tab 50 = some ⟨.sl 35, 1, 24, [.nilsl]⟩ := rfl
@[simp] theorem tab54 : assoc tab 54 = some ⟨.func, 1, 8, [.nilfn]⟩ := rfl
theorem follows : Try.prog.follows .mixedOrders = true := by kernel_rfl
theorem w64 (n : Int) (h : -9223372036854775808 ≤ n) (h' : n ≤ 9223372036854775807) : IntKind.i64.wrap n = n := IntWalk.i64_in n ⟨h, h'⟩
end Go.Proofs.Ytgiphneejidahaa
