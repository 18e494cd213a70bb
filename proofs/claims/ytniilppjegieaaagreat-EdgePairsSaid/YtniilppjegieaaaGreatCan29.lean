/- The further operations as one step. No function of the program is mentioned here. -/
import Derived.Test.YtniilppjegieaaaGreatCan28
namespace Go.Can
open Go.RowKit

section
variable {P : Program} {C : Cx} {s : St} {ops : Array Oper} {tab : List (Nat × TI)}

def appZx (tab : List (Nat × TI)) (s : St) (d : Option Tmp) (x y : Operand) (t it : TypeId) : Option St :=
  match tdAt tab t, tdAt tab it, ev s x, ev s y with
  | some (.sl e), some (.int .i64), some (.osl p 0 n), some (.int .i64 mi) => match assoc tab e, assoc s.heap p with
    | some ie, some ob => if 0 < ie.size ∧ 0 < ie.bytes ∧ ob.elem = e ∧ ob.sz = ie.size ∧ n * ie.size = ob.cells.length ∧ (n + mi.toNat) * ie.bytes ≤ 140737488355328 ∧ 0 < mi then some (AppZ s d p n mi.toNat ob ie.zero) else none
    | _, _ => none
  | _, _, _, _ => none
theorem appZx_ok (ht : TabOk P tab) {o : Oper} {cl : Call} {t it : TypeId} {x y : Operand} {s' : St} (hd : dstOk C.nt o.dst = true) (ho : o.op = .call cl) (hcl : cl.callee = .builtin .append) (hargs : cl.args = #[x, y]) (hts : cl.argTypes = #[t, it]) (h : appZx tab s o.dst x y t it = some s') : XOk P C o s s' := by
  unfold appZx at h
  split at h
  · rename_i e p n mi h1 h2 h3 h4
    split at h
    · rename_i ie ob h5 h6
      split at h
      · rename_i hc
        cases h
        obtain ⟨c1, c2, c3, c4, c5, c6, c7⟩ := hc
        obtain ⟨ii, hi1, hi2⟩ := Option.map_eq_some_iff.1 h2
        have hm : ((mi.toNat : Nat) : Int) = mi := by omega
        intro a w hr
        obtain ⟨z, w', s', k1, k2, k3⟩ := appZ_ok (P := P) (C := C) (s := s) ht (m := mi.toNat) hd ho hcl hargs hts h1 h5 hi1 hi2 h3 (by rw [hm]; exact h4) h6 c1 c2 c3 c4 c5 c6 (by omega) rfl a w hr
        cases k2
        exact ⟨w', .inl ⟨z, k1, k3⟩⟩
      · cases h
    · cases h
  · cases h
def appx (tab : List (Nat × TI)) (s : St) (o : Oper) (x y : Operand) (t it : TypeId) : Option St :=
  match appZx tab s o.dst x y t it with
  | some s' => some s'
  | none => match x, ev s x with
    | .tmp tx, some .nilsl => match tdAt tab t with
      | some (.sl e) => match assoc tab e with
        | some ie => match assoc s.env tx with
          | some .nilsl => appZx tab (s.own tx e ie.size) o.dst x y t it
          | _ => none
        | none => none
      | _ => none
    | _, some (.osl p _ n) => match assoc s.heap p with
      | some ob => stepOp tab (s.cut p ob (n * ob.sz)) o
      | none => none
    | _, _ => none
theorem appx_ok (ht : TabOk P tab) {o : Oper} {cl : Call} {t it : TypeId} {x y : Operand} {s' : St} (hd : dstOk C.nt o.dst = true) (ho : o.op = .call cl) (hcl : cl.callee = .builtin .append) (hargs : cl.args = #[x, y]) (hts : cl.argTypes = #[t, it]) (h : appx tab s o x y t it = some s') : XOk P C o s s' := by
  unfold appx at h
  split at h
  · rename_i s1 h1
    cases h
    exact appZx_ok ht hd ho hcl hargs hts h1
  · split at h
    · rename_i tx _ hx
      split at h
      · rename_i e h1
        split at h
        · rename_i ie h2
          split at h
          · rename_i h3
            exact XOk.le (Le.own tx e ie.size h3) (appZx_ok ht hd ho hcl hargs hts h)
          · cases h
        · cases h
      · cases h
    · rename_i p _ n _ hx
      split at h
      · rename_i ob h1
        exact XOk.le (Le.cut _ h1) (XOk.of_step ht hd h)
      · cases h
    · cases h

def xstep (n0 : Nat) (tab : List (Nat × TI)) (s : St) (o : Oper) : Option St :=
  match o.op with
  | .convert t u x => match cconv tab s t u x with
    | some c => some (s.put o.dst c)
    | none => match ev s x, tdAt tab t, tdAt tab u with
      | some (.str b), some .str, some (.sl e) => match tdAt tab e with
        | some (.int .u8) => if b.size ≤ 1000000 then some (s.put o.dst (.tsl (cbytes b) b.size)) else none
        | _ => none
      | some (.osl p off n), some (.sl e), _ => if t = u ∧ 0 < n then match tdAt tab e, assoc s.heap p with
          | some (.int .u8), some ob => if trees ob.cells = true then some (frzOp s p ob o.dst off n) else none
          | _, _ => none
        else none
      | _, _, _ => none
  | .makeInterface t x => match ev s x, tdAt tab t with
    | some _, some .oth => none
    | some c, some _ => some (s.put o.dst (.iface t [c]))
    | _, _ => none
  | .makeMap _ none => some (St.put ⟨s.env, s.heap, s.nx + 1⟩ o.dst (.mp s.nx []))
  | .range t x => match ev s x, tdAt tab t with
    | some (.str b), some .str => some (St.put ⟨s.env, s.heap, s.nx + 1⟩ o.dst (.iter s.nx b 0))
    | _, _ => none
  | .next x true => match ev s x with
    | some (.iter k b p) => if n0 ≤ k then cnext s o.dst k b p else none
    | _ => none
  | .call cl => match cl.callee with
    | .builtin .append => match cl.args.toList, cl.argTypes.toList with
      | [x, y], [t, it] => appx tab s o x y t it
      | _, _ => none
    | .builtin .cap => match cl.args.toList, cl.argTypes.toList with
      | [x], [t] => match ev s x, tdAt tab t with
        | some .nilsl, some (.sl _) => some (s.put o.dst (.int .i64 0))
        | _, _ => none
      | _, _ => none
    | _ => none
  | _ => none
theorem xstep_ok (ht : TabOk P tab) {o : Oper} {s' : St} (hd : dstOk C.nt o.dst = true) (h : xstep C.n0 tab s o = some s') : XOk P C o s s' := by
  have toA : ∀ {α : Type} {x : Array α} {l : List α}, x.toList = l → x = l.toArray := fun {α x l} e => by rw [← e]
  unfold xstep at h
  split at h
  · rename_i t u x ho
    split at h
    · rename_i c hc
      cases h
      rintro a w ⟨σ, hr⟩
      obtain ⟨z, k1, k2⟩ := cconv_ok ht hr hc
      exact ⟨w, .inl ⟨z, by simp [execOp, ho, k1], rel_put hd hr k2⟩⟩
    · split at h
      · rename_i b e hx h1 h2
        split at h
        · rename_i h3
          split at h
          · rename_i hm
            cases h
            exact str_bytes_ok ht hd ho hx h1 h2 h3 hm
          · cases h
        · cases h
      · rename_i p off n e _ hx h1
        split at h
        · rename_i hc
          obtain ⟨rfl, hn⟩ := hc
          split at h
          · rename_i ob h3 h4
            split at h
            · rename_i h5
              cases h
              exact mark_ok ht hd ho hx hn h1 h3 h4 h5
            · cases h
          · cases h
        · cases h
      · cases h
  · rename_i t x ho
    split at h
    · cases h
    · rename_i c d hn hx h1
      cases h
      exact iface_ok ht hd ho hx h1 (fun e => hn e)
    · cases h
  · rename_i t ho
    cases h
    exact map_ok hd ho
  · rename_i t x ho
    split at h
    · rename_i b hx h1
      cases h
      exact range_ok ht hd ho hx h1
    · cases h
  · rename_i x ho
    split at h
    · rename_i k b p hx
      split at h
      · rename_i hk
        exact next_ok hd ho hx hk h
      · cases h
    · cases h
  · rename_i cl ho
    split at h
    · rename_i hcl
      split at h
      · rename_i x y t it ha hts
        exact appx_ok ht hd ho hcl (toA ha) (toA hts) h
      · cases h
    · rename_i hcl
      split at h
      · rename_i x t ha hts
        split at h
        · rename_i e hx h1
          cases h
          exact cap_ok ht hd ho hcl (toA ha) (toA hts) hx h1
        · cases h
      · cases h
    · cases h
  · cases h
end
end Go.Can
