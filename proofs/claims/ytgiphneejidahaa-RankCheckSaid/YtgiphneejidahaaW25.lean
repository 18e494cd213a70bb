/- Law RankCheck. -/
import Derived.Test.YtgiphneejidahaaW23
import Derived.Test.YtgiphneejidahaaCan17
namespace Go.Proofs.Ytgiphneejidahaa
open Go.Can

/-- A state that hangs on a bool, on an int. -/
def SomeB (p : Bool → Prop) (f : Bool → St) (s : St) : Prop := ∃ b, p b ∧ s = f b

set_option maxHeartbeats 4000000 in
set_option maxRecDepth 10000 in
theorem c11_ok (n : Int) (l ranks : List Int) (up : Bool) (small : Int) (hl : l.length ≤ 9223372036854775807) (_hr : ranks.length ≤ 9223372036854775807) : PureCall Try.prog 11 [.int .i64 n, ints l, ints ranks, .bool up, .int .i64 small] (.bool true) := by
  refine PureCall.of_TLe Try.func11 rfl (by kernel_rfl) (by simp [Try.ntmps11]) rfl fun C hC => ?_
  rw [Try.ntmps11] at hC
  refine T.seq (T.go' tabOk ?_)
  simp [hC]
  refine T.seq (T.go' tabOk ?_)
  simp [hC]
  refine TL.call (by simp [hC]) rfl rfl (CallQ.of rfl rfl (c26_ok n)) (TL.go' tabOk ?_)
  have hk0 := Int.emod_nonneg n (show (11 : Int) ≠ 0 by decide)
  have hk1 := Int.emod_lt_of_pos n (show (0 : Int) < 11 by decide)
  obtain ⟨k, hk⟩ : ∃ k : Nat, n % 11 = k := ⟨(n % 11).toNat, by omega⟩
  rw [hk] at hk0 hk1 ⊢
  simp [hC]
  refine T.seq (T.go' tabOk ?_)
  simp [hC]
  refine TL.call (by simp [hC]) rfl rfl (CallQ.of rfl rfl (c27_ok l k up (by omega) hl)) (TL.go' tabOk ?_)
  have hps := pairsUp_le l k up
  generalize pairsUp l k up = ps at *
  have hp : ps.length ≤ 1000000 := by omega
  simp [hC]
  refine T.seq (T.go' tabOk ?_)
  simp [hC]
  refine T.seq (T.seq (T.go' tabOk ?_))
  simp [hC]
  refine T.block ?_
  refine T.loopLe (fun m s => ∃ i : Nat, m = k - i ∧ i ≤ k ∧ ∃ r : List Int, r.length = i ∧ s = ⟨[(13, .int .i64 i), (12, .osl 0 0 r.length), (11, intss ps), (0, .int .i64 k), (2, ints ranks), (4, .int .i64 small)], [(0, ⟨3, 1, r.map I64⟩)], 1⟩) (n := k) ?_ ?_
  · refine upTo.le (Le.own 12 3 1 rfl) ?_
    refine upTo.trim [13, 12, 11, 0, 2, 4] [0] 1 (by simp) ⟨0, rfl, Nat.zero_le _, [], rfl, ?_⟩
    simp
  · rintro m s ⟨i, rfl, hi, r, hrl, rfl⟩
    refine T.seq (T.seq (T.go' tabOk ?_))
    simp [hC]
    refine T.cond_if rfl (fun h => ?_) (fun h => ?_)
    · have hik : i < k := by simpa using h
      have hwi := w64 ((i : Int) + 1) (by omega) (by omega)
      refine T.skip ?_
      simp
      refine T.le (Le.env [13, 12, 11, 0, 2, 4]) ?_
      simp
      refine T.seq (T.block (T.seq (T.go' tabOk ?_)))
      simp [hC]
      refine T.cut (fun s => ∃ v : Int, s = ⟨[(14, .int .i64 v), (13, .int .i64 i), (12, .osl 0 0 r.length), (11, intss ps), (0, .int .i64 k), (2, ints ranks), (4, .int .i64 small)], [(0, ⟨3, 1, r.map I64⟩)], 1⟩) ?_ ?_
      · refine T.cut (fun s => SomeB (fun b => b = true → i < ranks.length) (fun b => ⟨[(38, .bool b), (14, .int .i64 i), (13, .int .i64 i), (12, .osl 0 0 r.length), (11, intss ps), (0, .int .i64 k), (2, ints ranks), (4, .int .i64 small)], [(0, ⟨3, 1, r.map I64⟩)], 1⟩) s) (T.go' tabOk ?_) ?_
        · by_cases h1 : i < ranks.length
          · have eo : ranks[i]? = some ranks[i] := List.getElem?_eq_getElem h1
            generalize hv : ranks[i] = v at *
            simp [hC, ints, h1, hv]
            generalize (IntKind.i64.wrap ((v % 2 ^ IntKind.i64.bits).toNat &&& 3 % 2 ^ IntKind.i64.bits : Nat) == 0) = b
            refine upTo.le (Le.env [38, 14, 13, 12, 11, 0, 2, 4]) (upTo.here ⟨b, trivial, ?_⟩)
            simp
          · simp [hC, ints, h1]
            refine upTo.le (Le.env [38, 14, 13, 12, 11, 0, 2, 4]) (upTo.here ⟨false, rfl, ?_⟩)
            simp
        · rintro s ⟨b, hb, rfl⟩
          refine T.cond_if rfl (fun h => ?_) (fun h => ?_)
          · have h1 := hb h
            have eo : ranks[i]? = some ranks[i] := List.getElem?_eq_getElem h1
            generalize hv : ranks[i] = v at *
            have hs0 := Int.emod_nonneg small (show (12 : Int) ≠ 0 by decide)
            have hs1 := Int.emod_lt_of_pos small (show (0 : Int) < 12 by decide)
            have hws := w64 (1 + small % 12) (by omega) (by omega)
            refine T.draw' tabOk follows [] [0, 1, 2, 3, 4, 5, 6, 7, 8, 9] [] (by kernel_rfl) ?_
            simp [hC, ints, h1, hv]
            refine TH.call rfl rfl rfl rfl (CallQ.of rfl rfl (c23_ok small 12 (by decide) (by decide))) (TH.go' ?_)
            simp [hws]
            generalize v.fdiv (2 ^ min 2 IntKind.i64.bits) = v2
            refine TH.call rfl rfl rfl rfl (CallQ.of rfl rfl (c23_ok v2 (1 + small % 12) (by omega) (by omega))) (TH.go' ?_)
            simp [hC]
            refine upTo.le (Le.env [14, 13, 12, 11, 0, 2, 4]) (upTo.here ⟨v2 % (1 + small % 12), ?_⟩)
            simp
          · refine T.skip ?_
            simp
            refine upTo.le (Le.env [14, 13, 12, 11, 0, 2, 4]) (upTo.here ⟨i, ?_⟩)
            simp
      · rintro s ⟨v, rfl⟩
        have hb2 : (r.length + 1) * 8 ≤ 140737488355328 := by omega
        refine T.go' tabOk ?_
        simp [hC, hb2]
        refine T.go' tabOk ?_
        simp [hC, hwi]
        refine ⟨_, ?_, upTo.trim [13, 12, 11, 0, 2, 4] [0] 1 (by simp) ⟨i + 1, rfl, hik, r ++ [v], ?_, ?_⟩⟩
        · omega
        · simp [hrl]
        · simp [hrl]
    · have hik : i = k := by simp at h; omega
      subst hik
      refine T.exit ?_
      simp
      refine T.le (Le.env [12, 11, 0]) ?_
      simp
      have hrl' : r.length ≤ 10 := by omega
      refine T.seq (T.go' tabOk ?_)
      simp [hC]
      refine TL.call (by simp [hC]) rfl rfl (CallQ.lent (ds := [.int .i64 i, intss ps, ints r]) rfl (by simp [intss, ints, List.take_of_length_le]) (c34_ok i ps r hp) rfl) (TL.go' tabOk ?_)
      simp [hC]
      refine TL.call (by simp [hC]) rfl rfl (CallQ.lent (ds := [.int .i64 i, intss ps, ints r]) rfl (by simp [intss, ints, List.take_of_length_le]) (c35_ok i ps r hp) rfl) ?_
      refine TL.some tabOk 6 ?_
      simp [hC]
      have hb2 : (r.length + 1) * 8 ≤ 140737488355328 := by omega
      have htk : List.take r.length (r.map I64 ++ [CV.int .i64 0]) = r.map I64 := List.take_left' (by simp)
      refine TL.exec (by simp [hC]) (by simp) (App2 _ (some 66) 0 r.length 1 ⟨3, 1, r.map I64⟩ [I64 0]) (app2_ok tabOk (by simp [hC]) rfl rfl rfl rfl rfl rfl rfl rfl rfl rfl (by decide) (by decide) rfl rfl rfl (by simp) hb2 (by decide)) ?_
      rintro s' (rfl | rfl)
      · simp
        refine TL.callG (by simp [hC]) rfl rfl rfl rfl (CallQ.lent (ds := [.int .i64 i, intss ps, ints (r ++ [0])]) rfl (by simp [intss, ints, List.take_of_length_le]) (c34_ok i ps (r ++ [0]) hp) rfl) ?_
        refine TL.le (Le.env [67, 61, 60, 12, 11, 0]) ?_
        simp
        refine TL.le (Le.cut (o := 0) (ob := ⟨3, 1, r.map I64 ++ [CV.int .i64 0]⟩) r.length (by simp)) ?_
        simp [St.cut, htk]
        refine TL.go' tabOk ?_
        simp [hC, hb2]
        refine TL.callG (by simp [hC]) rfl rfl rfl rfl (CallQ.lent (ds := [.int .i64 i, intss ps, ints (r ++ [0])]) rfl (by simp [intss, ints, List.take_of_length_le]) (c35_ok i ps (r ++ [0]) hp) rfl) (TL.go' tabOk ?_)
        simp [hC]
        refine TL.callG (by simp [hC]) rfl rfl rfl rfl (CallQ.of rfl rfl c33_ok) (TL.go' tabOk ?_)
        simp [hC]
        refine T.ret ?_
        refine upTo.here ?_
        simp [Try.results11]
      · simp [St.new]
        refine TL.callG (by simp [hC]) rfl rfl rfl rfl (CallQ.lent (ds := [.int .i64 i, intss ps, ints (r ++ [0])]) rfl (by simp [intss, ints, List.take_of_length_le]) (c34_ok i ps (r ++ [0]) hp) rfl) ?_
        refine TL.le (Le.env [67, 61, 60, 12, 11, 0]) ?_
        simp
        refine TL.go' tabOk ?_
        simp [hC, hb2]
        refine TL.callG (by simp [hC]) rfl rfl rfl rfl (CallQ.lent (ds := [.int .i64 i, intss ps, ints (r ++ [0])]) rfl (by simp [intss, ints, List.take_of_length_le]) (c35_ok i ps (r ++ [0]) hp) rfl) (TL.go' tabOk ?_)
        simp [hC]
        refine TL.callG (by simp [hC]) rfl rfl rfl rfl (CallQ.of rfl rfl c33_ok) (TL.go' tabOk ?_)
        simp [hC]
        refine T.ret ?_
        refine upTo.here ?_
        simp [Try.results11]
end Go.Proofs.Ytgiphneejidahaa
