/- Rules whose premises simp alone carries to the next code. No function of the program is mentioned here. -/
import Derived.Test.YtniilppjegieaaaGreatCan13
namespace Go.Can
open Go.RowKit

section
variable {P : Program} {C : Cx} {s : St} {ops : Array Oper} {tab : List (Nat × TI)} {Q : Exit → St → Prop} {x y z : Code}

/- simp looks at the state alone, never at the code. -/
@[congr] theorem T_congr {s s' : St} {c : Code} (h : s = s') : T P C c s Q = T P C c s' Q := by rw [h]
@[congr] theorem TL_congr {s s' : St} {l : List Oper} {K : St → Prop} (h : s = s') : TL P C ops l s K = TL P C ops l s' K := by rw [h]
@[congr] theorem TH_congr {nt : Nat} {s s' : St} {l : List Nat} {K : St → Prop} (h : s = s') : TH P tab nt ops l s K = TH P tab nt ops l s' K := by rw [h]

attribute [simp] thenS blockS

def tlK (P : Program) (C : Cx) (ops : Array Oper) (K : St → Prop) : List Oper → St → Prop
  | [], s => K s
  | o :: r, s => TL P C ops (o :: r) s K
def thK (P : Program) (tab : List (Nat × TI)) (nt : Nat) (ops : Array Oper) (K : St → Prop) : List Nat → St → Prop
  | [], s => K s
  | i :: r, s => TH P tab nt ops (i :: r) s K
attribute [simp] tlK thK

theorem TL.go' (ht : TabOk P tab) {K : St → Prop} {l : List Oper} (h : goL tab C.nt ops (tlK P C ops K) l s) : TL P C ops l s K := by
  refine goL_ok ht l s ?_
  have e : tlK P C ops K = tlK P C ops K := rfl
  revert h
  have : ∀ (l : List Oper) (s : St), goL tab C.nt ops (tlK P C ops K) l s → goL tab C.nt ops (fun r s' => TL P C ops r s' K) l s := by
    intro l
    induction l with
    | nil => intro s h; exact TL.nil h
    | cons o r ih =>
      intro s h
      have fin : okS (goL tab C.nt ops (tlK P C ops K) r) (gstep tab C.nt ops s o) → okS (goL tab C.nt ops (fun r s' => TL P C ops r s' K) r) (gstep tab C.nt ops s o) := fun h => by
        cases hs : gstep tab C.nt ops s o with
        | none => rw [hs] at h; exact h.elim
        | some s' => rw [hs] at h; exact ih s' h
      unfold goL at h ⊢
      split
      · rename_i hc
        rw [if_pos hc] at h
        split
        · rename_i hg
          rw [hg] at h
          exact fin h
        · rename_i hg
          split at h
          · rename_i hg'; exact absurd hg' hg
          · exact h
      · rename_i hc
        rw [if_neg hc] at h
        exact fin h
  exact this l s

theorem TH.go' {nt : Nat} {K : St → Prop} {l : List Nat} (h : goH tab nt ops (thK P tab nt ops K) l s) : TH P tab nt ops l s K := by
  refine goH_ok l s ?_
  revert h
  have : ∀ (l : List Nat) (s : St), goH tab nt ops (thK P tab nt ops K) l s → goH tab nt ops (fun r s' => TH P tab nt ops r s' K) l s := by
    intro l
    induction l with
    | nil => intro s h; exact h
    | cons i r ih =>
      intro s h
      unfold goH at h ⊢
      split
      · rename_i hi; rw [hi] at h; exact h
      · rename_i o hi
        rw [hi] at h
        have fin : okS (goH tab nt ops (thK P tab nt ops K) r) (hstep tab nt ops s o) → okS (goH tab nt ops (fun r s' => TH P tab nt ops r s' K) r) (hstep tab nt ops s o) := fun h => by
          cases hs : hstep tab nt ops s o with
          | none => rw [hs] at h; exact h.elim
          | some s' => rw [hs] at h; exact ih s' h
        simp only at h
        split
        · rename_i hc
          rw [if_pos hc] at h
          split
          · rename_i hg
            rw [hg] at h
            exact fin h
          · rename_i hg
            split at h
            · rename_i hg'; exact absurd hg' hg
            · exact h
        · rename_i hc
          rw [if_neg hc] at h
          exact fin h
  exact this l s

theorem T.go' (ht : TabOk P tab) {id : Nat} {l : List Oper} (h : goL tab C.nt l.toArray (tlK P C l.toArray (Q .normal)) l s) : T P C (.region id l.toArray false) s Q := T.region (TL.go' ht h)

/-- The tail of a region that draws. -/
def tailK (P : Program) (C : Cx) (tab : List (Nat × TI)) (l : List Oper) (tail : List Nat) (K : St → Prop) (s : St) : Prop := goL tab C.nt l.toArray (tlK P C l.toArray K) (tail.map (l.toArray.getD · default)) s
theorem T.draw' (ht : TabOk P tab) (hm : P.follows .mixedOrders = true) {id : Nat} {l : List Oper} (pre ord tail : List Nat) (hB : drawB l.toArray pre ord tail = true)
    (h : goH tab C.nt l.toArray (thK P tab C.nt l.toArray (tailK P C tab l tail (Q .normal))) (pre ++ ord) s) : T P C (.region id l.toArray true) s Q :=
  T.draw ht hm pre ord tail hB (TH.mono' (TH.go' h))
where TH.mono' {nt : Nat} {l : List Oper} {tail : List Nat} : ∀ {ord : List Nat} {s : St}, TH P tab nt l.toArray ord s (tailK P C tab l tail (Q .normal)) → TH P tab nt l.toArray ord s (fun s' => TL P C l.toArray (tail.map (l.toArray.getD · default)) s' (Q .normal))
  | [], _, h => TL.go' ht h
  | _ :: _, _, ⟨o, r, h1, h2, h3⟩ => ⟨o, r, h1, h2, TH.mono' h3⟩

/-- Two ways meet again: what holds behind x. -/
theorem T.cut (J : St → Prop) (h : T P C x s (thenS (upTo C J) Q)) (k : ∀ s', J s' → T P C y s' Q) : T P C (.seq x y) s Q :=
  T.seq (T.post h fun e s' q => by
    cases e with
    | normal => obtain ⟨s'', hj, hl⟩ := q; exact ⟨s'', k s'' hj, hl⟩
    | _ => exact ⟨s', q, Le.refl _⟩)
end
attribute [simp] tailK
end Go.Can
