/- The interpreter's draws, by an oracle (pre, ord, tail) whose orders are checked once for each function. No function of the program is mentioned here. -/
import Derived.Test.YtniilppjegieaaaGreatCan26
namespace Go.Can
open Go.RowKit

abbrev Oracle := FuncId → Nat → Option (List Nat × List Nat × List Nat)
def gdO (orc : Oracle) (g : FuncId) (id : Nat) (ops : Array Oper) (d : Bool) : Bool := !d || match orc g id with
  | some (pre, ord, tail) => drawB ops pre ord tail
  | none => true
def qrun (tab : List (Nat × TI)) (nt : Nat) (ops : Array Oper) : List Nat → St → Option St
  | [], s => some s
  | i :: r, s => match ops[i]? with
    | none => none
    | some o => match hstep tab nt ops s o with
      | some s' => qrun tab nt ops r s'
      | none => none
def drO (tab : List (Nat × TI)) (orc : Oracle) (call : Caller) (g : FuncId) (nt : Nat) (id : Nat) (ops : Array Oper) (s : St) : Option St := match orc g id with
  | none => none
  | some (pre, ord, tail) => match qrun tab nt ops (pre ++ ord) s with
    | none => none
    | some s' => lrun tab nt ops call (tail.map (ops.getD · default)) s'

section
variable {P : Program} {C : Cx} {s : St} {tab : List (Nat × TI)} {ops : Array Oper} {call : Caller}
theorem qrun_ok {nt : Nat} {K : St → Prop} : ∀ (l : List Nat) (s s' : St), qrun tab nt ops l s = some s' → K s' → TH P tab nt ops l s K
  | [], s, s', h, hk => by
    simp only [qrun] at h
    cases h
    exact hk
  | i :: r, s, s', h, hk => by
    simp only [qrun] at h
    split at h
    · cases h
    · rename_i o ho
      split at h
      · rename_i s1 h1
        obtain ⟨x, k1, k2⟩ := hstep_ok (P := P) h1
        exact ⟨o, x, ho, k1, by rw [k2]; exact qrun_ok r s1 s' h hk⟩
      · cases h

theorem drO_ok (ht : TabOk P tab) (hm : P.follows .mixedOrders = true) {orc : Oracle} (call : Caller) (hc : CallerOk P tab call) (C : Cx) (g : FuncId) (id : Nat) (ops : Array Oper) (s s' : St) (hg : gdO orc g id ops true = true) (h : drO tab orc call g C.nt id ops s = some s') : T P C (.region id ops true) s fun e x => e = .normal ∧ x = s' := by
  unfold drO at h
  unfold gdO at hg
  split at h
  · cases h
  · rename_i pre ord tail ho
    rw [ho] at hg
    split at h
    · cases h
    · rename_i s1 h1
      have hB : drawB ops.toList.toArray pre ord tail = true := by simpa using hg
      have hl := lrun_ok (ops := ops) ht hc _ _ _ h
      have := T.draw (P := P) (C := C) (s := s) (id := id) (l := ops.toList) (Q := fun e x => e = .normal ∧ x = s') ht hm pre ord tail hB (qrun_ok (pre ++ ord) s s1 (by simpa using h1) (by
        intro a w Q hr hQ
        have k := hl a w Q hr fun x a' w' hx hr' => hQ x a' w' ⟨rfl, hx⟩ hr'
        simpa using k))
      simpa using this

/-- The caller by fuel and oracle tells the truth. -/
theorem frunO_ok (ht : TabOk P tab) (hm : P.follows .mixedOrders = true) {al : FuncId → Bool} {orc : Oracle} (hgd : ∀ g fn c, al g = true → P.funcs[g]? = some fn → fn.body = some c → goodC (gdO orc g) c = true) (f : Nat) : CallerOk P tab (frun P tab al (drO tab orc) f) :=
  frun_ok ht hgd (fun call hc C g id ops s s' hg hs => drO_ok ht hm call hc C g id ops s s' hg hs) f
end
end Go.Can
