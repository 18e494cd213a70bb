/- The interpreter's regions that do not draw, with calls. No function of the program is mentioned here. -/
import Derived.Test.YtniilppjegieaaaGreatCan25
namespace Go.Can
open Go.RowKit

def userCall (o : Oper) : Option Call := match o.op with
  | .call c => match c.callee with
    | .builtin _ => none
    | _ => some c
  | _ => none
theorem userCall_op {o : Oper} {c : Call} (h : userCall o = some c) : o.op = .call c := by
  unfold userCall at h
  split at h
  · rename_i c' hop
    split at h
    · cases h
    · cases h; exact hop
  · cases h
abbrev Caller := FuncId → List CV → List (Nat × Ob) → Nat → Option (CV × List (Nat × Ob) × Nat)
def ostep (tab : List (Nat × TI)) (nt : Nat) (ops : Array Oper) (call : Caller) (o : Oper) (s : St) : Option St :=
  match userCall o with
  | none => gstep tab nt ops s o
  | some c => match guardS ops s o with
    | some true => if dstOk nt o.dst = true then match callArgs s c with
        | some (g, cs) => match call g cs s.heap s.nx with
          | some (x, H, n) => some (St.put ⟨s.env, H, n⟩ o.dst x)
          | none => none
        | none => none
      else none
    | _ => gstep tab nt ops s o
def lrun (tab : List (Nat × TI)) (nt : Nat) (ops : Array Oper) (call : Caller) : List Oper → St → Option St
  | [], s => some s
  | o :: r, s => match ostep tab nt ops call o s with
    | some s' => lrun tab nt ops call r s'
    | none => none

section
variable {P : Program} {C : Cx} {s : St} {tab : List (Nat × TI)} {ops : Array Oper} {call : Caller}

def CallerOk (P : Program) (tab : List (Nat × TI)) (call : Caller) : Prop := ∀ g cs H n x H' n', call g cs H n = some (x, H', n') → Body P tab g cs H n fun r s' => r = x ∧ s'.heap = H' ∧ s'.nx = n'

theorem ostep_ok (ht : TabOk P tab) (hc : CallerOk P tab call) {o : Oper} {l : List Oper} {s' : St} {K : St → Prop} (h : ostep tab C.nt ops call o s = some s') (hk : TL P C ops l s' K) : TL P C ops (o :: l) s K := by
  unfold ostep at h
  split at h
  · exact TL.step ht h hk
  · rename_i c hu
    split at h
    · rename_i hg
      split at h
      · rename_i hd
        split at h
        · rename_i g cs hca
          split at h
          · rename_i x H n hx
            cases h
            refine TL.callB ht hd hg (userCall_op hu) hca (hc _ _ _ _ _ _ _ hx) ?_
            rintro r s1 ⟨rfl, rfl, rfl⟩
            exact hk
          · cases h
        · cases h
      · cases h
    · exact TL.step ht h hk
theorem lrun_ok (ht : TabOk P tab) (hc : CallerOk P tab call) : ∀ (l : List Oper) (s s' : St), lrun tab C.nt ops call l s = some s' → TL P C ops l s fun x => x = s'
  | [], s, s', h => by
    simp only [lrun] at h
    cases h
    exact TL.nil rfl
  | o :: r, s, s', h => by
    simp only [lrun] at h
    split at h
    · rename_i s1 h1
      exact ostep_ok ht hc h1 (lrun_ok ht hc r s1 s' h)
    · cases h

theorem TL.again {id : Nat} {l : List Oper} {s' : St} (h : TL P C l.toArray l s fun x => x = s') : T P C (.region id l.toArray false) s fun e x => e = .normal ∧ x = s' :=
  T.region fun a w Q hr hQ => h a w Q hr fun x a' w' hx hr' => hQ x a' w' ⟨rfl, hx⟩ hr'

/-- The runner of regions: those that draw by another ('dr'). -/
def regRun (tab : List (Nat × TI)) (nt : Nat) (call : Caller) (dr : Nat → Array Oper → St → Option St) (id : Nat) (ops : Array Oper) (d : Bool) (s : St) : Option St :=
  if d then dr id ops s else lrun tab nt ops call ops.toList s
theorem regRun_ok (ht : TabOk P tab) (hc : CallerOk P tab call) {dr : Nat → Array Oper → St → Option St} {gd : Nat → Array Oper → Bool → Bool} (hd : ∀ id ops s s', gd id ops true = true → dr id ops s = some s' → T P C (.region id ops true) s fun e x => e = .normal ∧ x = s') : RegOk P C gd (regRun tab C.nt call dr) := by
  intro id ops d s s' hg h
  unfold regRun at h
  cases d with
  | true => exact hd id ops s s' hg (by simpa using h)
  | false =>
    have hl := lrun_ok (ops := ops.toList.toArray) ht hc ops.toList s s' (by simpa using h)
    simpa using TL.again (id := id) hl

/-- The caller by fuel: bodies run by crun. -/
def frun (P : Program) (tab : List (Nat × TI)) (al : FuncId → Bool) (dr : Caller → FuncId → Nat → Nat → Array Oper → St → Option St) : Nat → Caller
  | 0 => fun _ _ _ _ => none
  | f + 1 => fun g cs H n => match P.funcs[g]? with
    | none => none
    | some fn => match fn.body with
      | none => none
      | some c => if (fn.name == "runtime.NumGoroutine") = false ∧ cs.length ≤ fn.ntmps ∧ al g = true then
          match crun (regRun tab fn.ntmps (frun P tab al dr f) (dr (frun P tab al dr f) g fn.ntmps)) f c ⟨(enter cs).env, H, n⟩ with
          | some (.normal, s') => (cresults tab fn s').map fun r => (r, s'.heap, s'.nx)
          | some (.ret, s') => (cresults tab fn s').map fun r => (r, s'.heap, s'.nx)
          | _ => none
        else none
theorem frun_ok (ht : TabOk P tab) {al : FuncId → Bool} {gd : FuncId → Nat → Array Oper → Bool → Bool} (hgd : ∀ g fn c, al g = true → P.funcs[g]? = some fn → fn.body = some c → goodC (gd g) c = true) {dr : Caller → FuncId → Nat → Nat → Array Oper → St → Option St} (hd : ∀ call, CallerOk P tab call → ∀ (C : Cx) g id ops s s', gd g id ops true = true → dr call g C.nt id ops s = some s' → T P C (.region id ops true) s fun e x => e = .normal ∧ x = s') : ∀ f, CallerOk P tab (frun P tab al dr f)
  | 0 => fun _ _ _ _ _ _ _ h => by simp [frun] at h
  | f + 1 => fun g cs H n x H' n' h => by
    have ih := frun_ok ht hgd hd f
    simp only [frun] at h
    split at h
    · cases h
    · rename_i fn hf
      split at h
      · cases h
      · rename_i c hb
        split at h
        · rename_i hcond
          refine Body.of_T hf hb hcond.1 hcond.2.1 fun C hC hC0 => ?_
          rw [← hC] at h
          have hR : RegOk P C (gd g) (regRun tab C.nt (frun P tab al dr f) (dr (frun P tab al dr f) g C.nt)) := regRun_ok ht ih fun id ops s s' hg hs => hd _ ih C g id ops s s' hg hs
          cases hx : crun (regRun tab C.nt (frun P tab al dr f) (dr (frun P tab al dr f) g C.nt)) f c ⟨(enter cs).env, H, n⟩ with
          | none => rw [hx] at h; cases h
          | some q =>
            rw [hx] at h
            refine T.mono (crun_ok hR f c _ q (hgd g fn c hcond.2.2 hf hb) hx) ?_
            rintro e s' ⟨e1, e2⟩
            obtain ⟨e3, s1⟩ := q
            simp only at e1 e2
            subst e1
            subst e2
            cases e <;> simp only at h <;> first | cases h | skip
            all_goals
              obtain ⟨r, h1, h2⟩ := Option.map_eq_some_iff.1 h
              cases h2
              exact upTo.here ⟨_, h1, rfl, rfl, rfl⟩
        · cases h
end
end Go.Can
