/- An interpreter over canonical states, and that what it says is so. Regions are run by a function that is taken ('reg'). No function of the program is mentioned here. -/
import Derived.Test.YtniilppjegieaaaGreatCan22
namespace Go.Can
open Go.RowKit

/-- Rounds until the body ends otherwise than normally. -/
def iter (g : St → Option (Exit × St)) : Nat → St → Option (Exit × St)
  | 0, _ => none
  | n + 1, s => match g s with
    | some (.normal, s') => iter g n s'
    | r => r
/-- Passes of a scope's code from its label, until it ends otherwise than by the jump back. -/
def iterG (l : Nat) (g : St → Option (Exit × St)) : Nat → St → Option (Exit × St)
  | 0, _ => none
  | n + 1, s => match g s with
    | some (.goto m, s') => if m = l then iterG l g n s' else none
    | r => r
def outB (id : Nat) : Exit × St → Exit × St
  | (.exit i, s) => if i = id then (.normal, s) else (.exit i, s)
  | r => r
def crun (reg : Nat → Array Oper → Bool → St → Option St) : Nat → Code → St → Option (Exit × St)
  | 0, _, _ => none
  | _ + 1, .skip, s => some (.normal, s)
  | _ + 1, .region id ops d, s => (reg id ops d s).map fun s' => (.normal, s')
  | f + 1, .seq x y, s => match crun reg f x s with
    | some (.normal, s') => crun reg f y s'
    | r => r
  | f + 1, .cond c x y, s => match ev s c with
    | some (.bool b) => crun reg f (if b then x else y) s
    | _ => none
  | f + 1, .block id c, s => (crun reg f c s).map (outB id)
  | f + 1, .scope c, s => match crun reg f c s with
    | some (.goto l, s') => match findLabel c l with
      | some rest => iterG l (crun reg f rest) f s'
      | none => none
    | r => r
  | f + 1, .loop c, s => iter (crun reg f c) f s
  | _ + 1, .exit id, s => some (.exit id, s)
  | _ + 1, .ret, s => some (.ret, s)
  | _ + 1, .label _, s => some (.normal, s)
  | _ + 1, .goto l, s => some (.goto l, s)
  | _ + 1, _, _ => none

section
variable {P : Program} {C : Cx} {s : St} {tab : List (Nat × TI)} {reg : Nat → Array Oper → Bool → St → Option St}

/-- All the regions of a code pass a check. -/
def goodC (gd : Nat → Array Oper → Bool → Bool) : Code → Bool
  | .region id ops d => gd id ops d
  | .seq x y => goodC gd x && goodC gd y
  | .cond _ x y => goodC gd x && goodC gd y
  | .block _ c => goodC gd c
  | .loop c => goodC gd c
  | .scope c => goodC gd c
  | _ => true
/-- That the regions' runner tells the truth. -/
def RegOk (P : Program) (C : Cx) (gd : Nat → Array Oper → Bool → Bool) (reg : Nat → Array Oper → Bool → St → Option St) : Prop := ∀ id ops d s s', gd id ops d = true → reg id ops d s = some s' → T P C (.region id ops d) s fun e x => e = .normal ∧ x = s'
def Ends (r : Exit × St) : Exit → St → Prop := fun e x => e = r.1 ∧ x = r.2

theorem goodC_find {gd : Nat → Array Oper → Bool → Bool} {l : Nat} : ∀ (c rest : Code), goodC gd c = true → findLabel c l = some rest → goodC gd rest = true
  | .seq a b, rest, hg, h => by
    simp only [goodC, Bool.and_eq_true] at hg
    simp only [findLabel] at h
    split at h
    · rename_i r hr
      cases h
      simp only [goodC, Bool.and_eq_true]
      exact ⟨goodC_find a r hg.1 hr, hg.2⟩
    · exact goodC_find b rest hg.2 h
  | .label l', rest, _, h => by
    simp only [findLabel] at h
    split at h
    · cases h; rfl
    · cases h
  | .skip, _, _, h => by simp [findLabel] at h
  | .region _ _ _, _, _, h => by simp [findLabel] at h
  | .cond _ _ _, _, _, h => by simp [findLabel] at h
  | .block _ _, _, _, h => by simp [findLabel] at h
  | .loop _, _, _, h => by simp [findLabel] at h
  | .rangeFunc _ _ _ _, _, _, h => by simp [findLabel] at h
  | .exit _, _, _, h => by simp [findLabel] at h
  | .scope _, _, _, h => by simp [findLabel] at h
  | .goto _, _, _, h => by simp [findLabel] at h
  | .ret, _, _, h => by simp [findLabel] at h
theorem T.straight {c : Code} {Q : Exit → St → Prop} (h : T P C c s fun e x => (∀ l, e ≠ .goto l) ∧ Q e x) : T P C (.scope c) s Q := fun a w hr =>
  wp_scope_straight (wp_mono (h a w hr) fun e a' w' ⟨s', q, r⟩ => by
    cases e with
    | goto l => exact absurd rfl (q.1 l)
    | _ => exact ⟨s', q.2, r⟩)
theorem crun_ok {gd : Nat → Array Oper → Bool → Bool} (hR : RegOk P C gd reg) : ∀ (f : Nat) (c : Code) (s : St) (r : Exit × St), goodC gd c = true → crun reg f c s = some r → T P C c s (Ends r)
  | 0, _, _, _, _, h => by simp [crun] at h
  | f + 1, c, s, r, hG, h => by
    have ih := crun_ok hR f
    cases c <;> simp only [crun] at h <;> first | cases h | skip
    case skip => exact T.skip ⟨rfl, rfl⟩
    case exit => exact T.exit ⟨rfl, rfl⟩
    case ret => exact T.ret ⟨rfl, rfl⟩
    case label => exact T.label ⟨rfl, rfl⟩
    case goto => exact T.goto ⟨rfl, rfl⟩
    case region id ops d =>
      obtain ⟨s', h1, rfl⟩ := Option.map_eq_some_iff.1 h
      exact hR id ops d s s' hG h1
    case seq x y =>
      simp only [goodC, Bool.and_eq_true] at hG
      refine T.seq ?_
      cases hx : crun reg f x s with
      | none => rw [hx] at h; cases h
      | some q =>
        rw [hx] at h
        obtain ⟨e, s1⟩ := q
        refine T.mono (ih x s _ hG.1 hx) ?_
        rintro e' s' ⟨e1, e2⟩
        simp only at e1 e2
        subst e1
        subst e2
        cases e' <;> simp only at h <;> first
          | exact ih y s' r hG.2 h
          | (cases h; exact ⟨rfl, rfl⟩)
    case cond c x y =>
      split at h
      · rename_i b hb
        simp only [goodC, Bool.and_eq_true] at hG
        exact T.cond hb (ih _ s r (by cases b <;> simp [hG.1, hG.2]) h)
      · cases h
    case block id c =>
      obtain ⟨q, h1, rfl⟩ := Option.map_eq_some_iff.1 h
      refine T.block (T.mono (ih c s q (by simpa only [goodC] using hG) h1) ?_)
      rintro e' s' ⟨e1, e2⟩
      obtain ⟨e, s1⟩ := q
      simp only at e1 e2
      subst e1
      subst e2
      cases e' <;> simp only [blockS, outB] <;> first
        | exact ⟨rfl, rfl⟩
        | (split <;> exact ⟨rfl, rfl⟩)
    case scope c =>
      simp only [goodC] at hG
      cases hx : crun reg f c s with
      | none => rw [hx] at h; cases h
      | some q =>
        rw [hx] at h
        obtain ⟨e, s1⟩ := q
        have k := ih c s _ hG hx
        cases e <;> simp only at h
        case goto l =>
          cases hl : findLabel c l with
          | none => rw [hl] at h; cases h
          | some rest =>
            rw [hl] at h
            refine T.scopeLe l (fun n s => iterG l (crun reg f rest) n s = some r) hl (T.mono k ?_) fun n s hn => ?_
            · rintro e' s' ⟨e1, e2⟩
              simp only at e1 e2
              subst e1
              subst e2
              exact ⟨rfl, f, upTo.here h⟩
            · cases n with
              | zero => simp [iterG] at hn
              | succ n =>
                simp only [iterG] at hn
                cases hy : crun reg f rest s with
                | none => rw [hy] at hn; cases hn
                | some q =>
                  rw [hy] at hn
                  obtain ⟨e, s2⟩ := q
                  refine T.mono (ih rest s _ (goodC_find c rest hG hl) hy) ?_
                  rintro e' s' ⟨e1, e2⟩
                  simp only at e1 e2
                  subst e1
                  subst e2
                  cases e' <;> simp only at hn
                  case goto m =>
                    split at hn
                    · rename_i e; exact ⟨e, n, Nat.lt_succ_self n, upTo.here hn⟩
                    · cases hn
                  all_goals
                    cases hn
                    exact ⟨rfl, rfl⟩
        all_goals
          cases h
          refine T.straight (T.mono k ?_)
          rintro e' s' ⟨e1, e2⟩
          simp only at e1 e2
          subst e1
          subst e2
          exact ⟨fun l e => (by cases e), rfl, rfl⟩
    case loop c =>
      refine T.loop (fun n s => iter (crun reg f c) n s = some r) h fun n s hn => ?_
      cases n with
      | zero => simp [iter] at hn
      | succ n =>
        simp only [iter] at hn
        cases hx : crun reg f c s with
        | none => rw [hx] at hn; cases hn
        | some q =>
          rw [hx] at hn
          obtain ⟨e, s1⟩ := q
          refine T.mono (ih c s _ (by simpa only [goodC] using hG) hx) ?_
          rintro e' s' ⟨e1, e2⟩
          simp only at e1 e2
          subst e1
          subst e2
          cases e' <;> simp only at hn <;> first
            | exact ⟨n, Nat.lt_succ_self n, hn⟩
            | (cases hn; exact ⟨rfl, rfl⟩)
end
end Go.Can
