/- Steps of explored draws, for walks. No function of the program is mentioned here. -/
import Derived.Test.YtniilppjegieaaaGreatCan20
namespace Go.Can
open Go.RowKit

section
variable {P : Program} {C : Cx} {s : St} {ops : Array Oper} {tab : List (Nat × TI)} {nt : Nat} {K : St → Prop} {f : Nat} {listed : Array Bool}

theorem XA.step {i : Nat} {o : Oper} (ho : ops[i]? = some o) (h : okS (fun s' => XA tab nt ops K f (listed.setIfInBounds i true) s') (stepA tab nt s o)) : ∃ o s', ops[i]? = some o ∧ stepA tab nt s o = some s' ∧ XA tab nt ops K f (listed.setIfInBounds i true) s' := by
  cases hs : stepA tab nt s o with
  | none => rw [hs] at h; exact h.elim
  | some s' => rw [hs] at h; exact ⟨o, s', ho, hs, h⟩
theorem XA.one {i : Nat} {o : Oper} (hr : Region.ready .any ops listed = [i]) (ho : ops[i]? = some o) (h : okS (fun s' => XA tab nt ops K f (listed.setIfInBounds i true) s') (stepA tab nt s o)) : XA tab nt ops K (f + 1) listed s :=
  XA.go i [] hr fun k hk => by
    simp only [List.mem_singleton] at hk
    subst hk
    exact XA.step ho h
theorem XA.two {i j : Nat} {o o' : Oper} (hr : Region.ready .any ops listed = [i, j]) (ho : ops[i]? = some o) (ho' : ops[j]? = some o') (h : okS (fun s' => XA tab nt ops K f (listed.setIfInBounds i true) s') (stepA tab nt s o)) (h' : okS (fun s' => XA tab nt ops K f (listed.setIfInBounds j true) s') (stepA tab nt s o')) : XA tab nt ops K (f + 1) listed s :=
  XA.go i [j] hr fun k hk => by
    simp only [List.mem_cons, List.not_mem_nil, or_false] at hk
    rcases hk with rfl | rfl
    · exact XA.step ho h
    · exact XA.step ho' h'
theorem TX.one {i : Nat} {o : Oper} (hr : Region.ready .any ops listed = [i]) (ho : ops[i]? = some o) (h : TL P C ops [o] s fun s' => TX P C ops K f (listed.setIfInBounds i true) s') : TX P C ops K (f + 1) listed s :=
  TX.go i [] hr fun k hk => by
    simp only [List.mem_singleton] at hk
    subst hk
    exact ⟨o, ho, h⟩
theorem TX.two {i j : Nat} {o o' : Oper} (hr : Region.ready .any ops listed = [i, j]) (ho : ops[i]? = some o) (ho' : ops[j]? = some o') (h : TL P C ops [o] s fun s' => TX P C ops K f (listed.setIfInBounds i true) s') (h' : TL P C ops [o'] s fun s' => TX P C ops K f (listed.setIfInBounds j true) s') : TX P C ops K (f + 1) listed s :=
  TX.go i [j] hr fun k hk => by
    simp only [List.mem_cons, List.not_mem_nil, or_false] at hk
    rcases hk with rfl | rfl
    · exact ⟨o, ho, h⟩
    · exact ⟨o', ho', h'⟩
end
end Go.Can
