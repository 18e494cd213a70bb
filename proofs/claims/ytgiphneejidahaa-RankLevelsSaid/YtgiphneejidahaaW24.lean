/- Law RankLevels. -/
import Derived.Test.YtgiphneejidahaaW23
namespace Go.Proofs.Ytgiphneejidahaa
open Go.Can

theorem pairsUp_nat (l : List Int) (k : Nat) (up : Bool) (p : List Int) (h : p ∈ pairsUp l k up) : ∃ a b : Nat, p = [(a : Int), (b : Int)] ∧ a < max k 1 ∧ b < max k 1 := by
  have h1 : p ∈ pairsOf l (max (k : Int) 1) := (List.mem_filter.1 h).1
  simp only [pairsOf, List.mem_map] at h1
  obtain ⟨i, _, rfl⟩ := h1
  have hp : (0 : Int) < max (k : Int) 1 := by omega
  have key : ∀ x : Int, ∃ a : Nat, x % max (k : Int) 1 = a ∧ a < max k 1 := fun x => by
    have h0 := Int.emod_nonneg x (show max (k : Int) 1 ≠ 0 by omega)
    have h1 := Int.emod_lt_of_pos x hp
    exact ⟨(x % max (k : Int) 1).toNat, by omega, by omega⟩
  obtain ⟨a, ea, ha⟩ := key (l.getD (2 * i) 0)
  obtain ⟨b, eb, hb⟩ := key (l.getD (2 * i + 1) 0)
  exact ⟨a, b, by simp only [pairAt, ea, eb], ha, hb⟩
theorem edge_of_mem (k : Nat) (ps : List (List Int)) (a b : Nat) (h : [(a : Int), (b : Int)] ∈ ps) (ha : a < k) (hb : b < k) : edgeM k ps a b = true := by
  rw [edgeM_iff]
  exact ⟨_, h, by simp [arrowB]; omega, rfl⟩
theorem natI_get (k : Nat) (f : Nat → Nat) (x : Nat) (h : x < k) : (natI ((List.range k).map f))[x]? = some (f x : Int) := by
  simp [natI, h]

set_option maxHeartbeats 4000000 in
set_option maxRecDepth 10000 in
theorem c13_ok (n : Int) (l : List Int) (up : Bool) (hl : l.length ≤ 9223372036854775807) : PureCall Try.prog 13 [.int .i64 n, ints l, .bool up] (.bool true) := by
  refine PureCall.of_TLe Try.func13 rfl (by kernel_rfl) (by simp [Try.ntmps13]) rfl fun C hC => ?_
  rw [Try.ntmps13] at hC
  refine T.seq (T.go' tabOk ?_)
  simp [hC]
  refine T.seq (T.go' tabOk ?_)
  simp [hC]
  refine TL.call (by simp [hC]) rfl rfl (CallQ.of rfl rfl (c26_ok n)) (TL.go' tabOk ?_)
  have hk0 := Int.emod_nonneg n (show (11 : Int) ≠ 0 by decide)
  have hk1 := Int.emod_lt_of_pos n (show (0 : Int) < 11 by decide)
  obtain ⟨k, hk⟩ : ∃ k : Nat, n % 11 = k := ⟨(n % 11).toNat, by omega⟩
  rw [hk] at hk0 hk1 ⊢
  have hk64 : k ≤ 64 := by omega
  have hnn := nn_nat k hk64
  simp [hC]
  refine T.seq (T.go' tabOk ?_)
  simp [hC]
  refine TL.call (by simp [hC]) rfl rfl (CallQ.of rfl rfl (c27_ok l k up (by omega) hl)) (TL.go' tabOk ?_)
  have hps := pairsUp_le l k up
  have hpn := pairsUp_nat l k up
  generalize pairsUp l k up = ps at *
  have hp : ps.length ≤ 1000000 := by omega
  simp [hC]
  refine T.seq (T.go' tabOk ?_)
  simp [hC]
  refine TL.call (by simp [hC]) rfl rfl (CallQ.of rfl rfl (c31_ok k ps hp)) (TL.go' tabOk ?_)
  have hlen := levL_length k ps
  have hget : ∀ x, x < k → (levL k ps)[x]? = some (levN k ps x : Int) := fun x hx => by
    have := natI_get k (levN k ps) x hx
    unfold levL
    rwa [hnn]
  have hlev := levN_least k ps hk64
  have h25 : ∀ a b : Nat, a < k → b < k → PureCall Try.prog 25 [.int .i64 k, intss ps, .int .i64 a, .int .i64 b] (.bool (reachM k ps a b)) := fun a b ha hb => by
    have := c25_ok k ps a b (by omega)
    unfold reachB at this
    rw [hnn] at this
    simpa [ha, hb] using this
  have hE := edge_of_mem k ps
  have hsl := same_lev k ps
  have hrk : rankB k ps = true → rankL k ps = levL k ps := fun h => by
    unfold rankL; rw [if_pos (of_decide_eq_true h)]
  rw [hnn] at hlen
  generalize levL k ps = V at *
  generalize levN k ps = lev at *
  generalize edgeM k ps = E at *
  generalize reachM k ps = M at *
  simp [hC]
  refine T.seq (T.seq (T.go' tabOk ?_))
  simp [hC, ints, hlen]
  refine T.cond_false rfl ?_
  refine T.skip ?_
  simp
  refine T.seq (T.seq (T.go' tabOk ?_))
  simp [hC]
  refine T.block ?_
  refine T.loopLe (fun m s => ∃ i : Nat, m = ps.length - i ∧ i ≤ ps.length ∧ s = ⟨[(9, .int .i64 i), (8, ints V), (7, intss ps), (0, .int .i64 k)], [], 0⟩) (n := ps.length) ?_ ?_
  · refine upTo.le (Le.env [9, 8, 7, 0]) (upTo.here ⟨0, rfl, Nat.zero_le _, ?_⟩)
    simp [ints, hlen]
  · rintro m s ⟨i, rfl, hi, rfl⟩
    refine T.seq (T.seq (T.go' tabOk ?_))
    simp [hC, intss]
    refine T.cond_if rfl (fun h => ?_) (fun h => ?_)
    · have hip : i < ps.length := by simpa using h
      have hwi := w64 ((i : Int) + 1) (by omega) (by omega)
      have ep : ps[i]? = some ps[i] := List.getElem?_eq_getElem hip
      have hmem : ps[i] ∈ ps := List.getElem_mem hip
      obtain ⟨a, b, hab, ha, hb⟩ := hpn ps[i] hmem
      generalize hpi : ps[i] = p at *
      subst hab
      refine T.skip ?_
      simp
      refine T.le (Le.env [9, 8, 7, 0]) ?_
      simp
      refine T.seq (T.block (T.seq (T.draw' tabOk follows [] [0, 1, 2, 3, 4, 5, 6, 7, 8, 9, 10, 11, 12, 13] [] (by kernel_rfl) ?_)))
      simp [hC, hip, hpi, ints]
      refine T.le (Le.env [11, 10, 9, 8, 7, 0]) ?_
      simp
      by_cases hk : k = 0
      · subst hk
        have ha0 : a = 0 := by omega
        subst ha0
        refine T.seq (T.seq (T.go' tabOk ?_))
        simp [hC]
        refine T.cond_true rfl ?_
        refine T.exit ?_
        simp
        refine T.go' tabOk ?_
        simp [hC, hwi]
        refine ⟨_, ?_, upTo.le (Le.env [9, 8, 7, 0]) (upTo.here ⟨i + 1, rfl, hip, ?_⟩)⟩
        · omega
        · simp
      · have hak : a < k := by omega
        have hbk : b < k := by omega
        have hak' : ¬ ((k : Int) ≤ a) := by omega
        have hbk' : ¬ ((k : Int) ≤ b) := by omega
        have hab := h25 a b hak hbk
        have hba := h25 b a hbk hak
        have hEab := hE a b hmem hak hbk
        have gva := hget a hak
        have gvb := hget b hbk
        have heq : mutB M a b = true → lev a = lev b := fun hm => Nat.le_antisymm (hlev.sol.same a b hak hbk hm) (hlev.sol.same b a hbk hak (by rw [mutB_symm]; exact hm))
        have hlt : mutB M a b = false → lev a + 1 ≤ lev b := fun hm => hlev.sol.edge a b hak hbk hEab hm
        refine T.seq (T.seq (T.go' tabOk ?_))
        simp [hC, hak', hbk']
        refine T.cond_false rfl ?_
        refine T.skip ?_
        simp
        refine T.le (Le.env [11, 10, 9, 8, 7, 0]) ?_
        simp
        refine T.cut (fun s => s = ⟨[(12, .bool (mutB M a b)), (11, .int .i64 b), (10, .int .i64 a), (9, .int .i64 i), (8, ints V), (7, intss ps), (0, .int .i64 k)], [], 0⟩) (T.go' tabOk ?_) ?_
        · by_cases he : a = b
          · subst he
            simp [hC]
            refine upTo.le (Le.env [12, 11, 10, 9, 8, 7, 0]) (upTo.here ?_)
            simp [mutB, intss, ints]
          · have he' : ((a : Int) == (b : Int)) = false := by simp; omega
            simp [hC, he']
            refine TL.callG (by simp [hC]) rfl rfl rfl rfl (CallQ.of rfl rfl hab) (TL.go' tabOk ?_)
            cases q1 : M a b
            · simp [hC]
              refine upTo.le (Le.env [12, 11, 10, 9, 8, 7, 0]) (upTo.here ?_)
              simp [mutB, both, he, q1, intss, ints]
            · simp [hC]
              refine TL.callG (by simp [hC]) rfl rfl rfl rfl (CallQ.of rfl rfl hba) (TL.go' tabOk ?_)
              simp [hC]
              refine upTo.le (Le.env [12, 11, 10, 9, 8, 7, 0]) (upTo.here ?_)
              simp [mutB, both, he, q1, intss, ints]
        · rintro s rfl
          generalize mutB M a b = tg at *
          refine (T.cut (fun s => s = ⟨[(92, .bool false), (9, .int .i64 i), (8, ints V), (7, intss ps), (0, .int .i64 k)], [], 0⟩) (T.draw' tabOk follows [] [0, 1, 2, 3, 4, 5, 6, 7, 8, 9, 10, 11, 12, 13, 14, 15, 16, 17, 18, 19, 20, 21] [] (by kernel_rfl) ?_) ?_)
          · have hva : a < V.length := by omega
            have hvb : b < V.length := by omega
            have eva : V[a] = (lev a : Int) := by rw [List.getElem?_eq_getElem hva] at gva; exact Option.some.inj gva
            have evb : V[b] = (lev b : Int) := by rw [List.getElem?_eq_getElem hvb] at gvb; exact Option.some.inj gvb
            cases tg
            · have h1 := hlt rfl
              have h2 : ¬ (lev b < lev a) := by omega
              have h2' : ¬ ((lev b : Int) < lev a) := by omega
              have h3 : ((lev a : Int) == (lev b : Int)) = false := by simp; omega
              simp [hC, ints, hak, hbk, hlen, eva, evb, h2, h3]
              refine upTo.le (Le.env [92, 9, 8, 7, 0]) (upTo.here ?_)
              simp [intss]
            · have h1 := heq rfl
              simp [hC, ints, hak, hbk, hlen, eva, evb, h1]
              refine upTo.le (Le.env [92, 9, 8, 7, 0]) (upTo.here ?_)
              simp [intss]
          · rintro s rfl
            refine T.cond_false rfl ?_
            refine T.skip ?_
            simp
            refine T.go' tabOk ?_
            simp [hC, hwi]
            refine ⟨_, ?_, upTo.le (Le.env [9, 8, 7, 0]) (upTo.here ⟨i + 1, rfl, hip, ?_⟩)⟩
            · omega
            · simp [intss, ints]
    · refine T.exit ?_
      simp
      refine T.le (Le.env [8, 7, 0]) ?_
      simp
      refine T.seq (T.go' tabOk ?_)
      simp [hC]
      refine TL.call (by simp [hC]) rfl rfl (CallQ.of rfl rfl (c28_ok k ps hp)) (TL.go' tabOk ?_)
      simp [hC]
      refine T.seq (T.go' tabOk ?_)
      cases hB : rankB k ps
      · simp [hC]
        refine TL.callG (by simp [hC]) rfl rfl rfl rfl (CallQ.of rfl rfl c33_ok) (TL.go' tabOk ?_)
        simp [hC]
        refine T.ret ?_
        refine upTo.here ?_
        simp [Try.results13]
      · rw [hrk hB]
        simp [hC]
        refine TL.callG (by simp [hC]) rfl rfl rfl rfl (CallQ.of rfl rfl hsl) (TL.go' tabOk ?_)
        simp [hC]
        refine TL.callG (by simp [hC]) rfl rfl rfl rfl (CallQ.of rfl rfl c33_ok) (TL.go' tabOk ?_)
        simp [hC]
        refine T.ret ?_
        refine upTo.here ?_
        simp [Try.results13]
end Go.Proofs.Ytgiphneejidahaa
