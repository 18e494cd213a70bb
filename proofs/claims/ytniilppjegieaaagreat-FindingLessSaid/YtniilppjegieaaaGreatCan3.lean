/- The operations that turn nothing in memory: what each yields, and that the model yields the same. No function of the program is mentioned here. -/
import Derived.Test.YtniilppjegieaaaGreatCan2
namespace Go.Can
open Go.RowKit

def CellsAt (w : World) (F : Nat → Prop) (σ : Nat → Option OB) (cs : List CV) (ad : Addr) : Prop :=
  ∃ us : List Value, VRs w F σ cs us ∧ cs.all one = true ∧ ∀ j u, us[j]? = some u → w.cell? (ad.add j) = some u

theorem CellsAt.drop {w : World} {F : Nat → Prop} {σ : Nat → Option OB} {cs : List CV} {ad : Addr} (k : Nat) (h : CellsAt w F σ cs ad) : CellsAt w F σ (cs.drop k) (ad.add k) := by
  obtain ⟨us, h1, h2, h3⟩ := h
  refine ⟨us.drop k, VRs.drop k cs us h1, ?_, fun j u hu => ?_⟩
  · rw [List.all_eq_true] at h2 ⊢
    exact fun x hx => h2 x (List.mem_of_mem_drop hx)
  · rw [List.getElem?_drop] at hu
    rw [add_add]; exact h3 _ u hu

def memAt (s : St) : CV → Option (List CV)
  | .tptr cs => some cs
  | .optr o off => (assoc s.heap o).map (·.cells.drop off)
  | _ => none

section
variable {P : Program} {C : Cx} {σ : Nat → Option OB} {s : St} {a : Act} {w : World}

theorem obj_at (h : RelAt C σ s a w) {o : Nat} {ob : Ob} {B : OB} {b : Nat} (ho : assoc s.heap o = some ob) (hB : σ o = some B) (hb : B.blk = some b) :
    CellsAt w (FB C σ s.heap) σ ob.cells ⟨b, 0, none⟩ := by
  obtain ⟨B', e1, _, _, e4, e5⟩ := h.obj o ob ho
  rw [hB] at e1; cases e1
  obtain ⟨cur, k1, k2, k3, k4, k5, k6⟩ := e5 b hb
  refine ⟨_, k6, e4, fun j u hu => ?_⟩
  rw [add_lit, Nat.zero_add, cell_of_row w b j cur _ _ k1]
  rw [List.getElem?_take] at hu
  split at hu
  · simpa using hu
  · cases hu

theorem memAt_ok (h : RelAt C σ s a w) {c : CV} {v : Value} {cs : List CV} (hv : VR w (FB C σ s.heap) σ c v) (hm : memAt s c = some cs) :
    ∃ ad, v = .pointer (some ad) ∧ CellsAt w (FB C σ s.heap) σ cs ad := by
  unfold memAt at hm
  split at hm
  · rename_i cs'
    cases hm
    simp only [VR, VRt] at hv
    obtain ⟨ad, e, hm⟩ := hv
    obtain ⟨us, h1, _, h3⟩ := MRt.cells _ _ hm
    exact ⟨ad, e, us, VRs.of_tree _ _ h1, MRt.ones _ _ hm, h3⟩
  · rename_i o off
    obtain ⟨ob, ho, rfl⟩ := Option.map_eq_some_iff.1 hm
    simp only [VR] at hv
    obtain ⟨B, b, hB, hb, rfl⟩ := hv
    refine ⟨_, rfl, ?_⟩
    have := (obj_at h ho hB hb).drop off
    rw [add_lit, Nat.zero_add] at this
    exact this
  · cases hm

theorem run_isAgg {t : TypeId} {i : TI} (hT : TIok P t i) (w : World) : (isAgg t).run P w = .ok i.agg w := by
  obtain ⟨d, h1, h2⟩ := hT.und
  simp only [isAgg, Sem.run_bind, run_und h1, Result.andThen_ok]
  unfold TI.agg
  rw [← h2]
  cases d <;> rfl

def cload (i : TI) (cs : List CV) : Option CV :=
  if i.agg then (if i.size ≤ cs.length then some (.agg (cs.take i.size)) else none) else cs.head?

theorem cload_ok {t : TypeId} {i : TI} (hT : TIok P t i) {F : Nat → Prop} {cs : List CV} {ad : Addr} {c : CV} (hm : CellsAt w F σ cs ad) (hc : cload i cs = some c) :
    ∃ v, (loadVar t ad).run P w = .ok v w ∧ VR w F σ c v := by
  obtain ⟨us, h1, h2, h3⟩ := hm
  obtain ⟨f, z, e1, e2, _⟩ := hT.info
  unfold cload at hc
  simp only [loadVar, Sem.run_bind, run_isAgg hT, Result.andThen_ok]
  split at hc
  · rename_i ha
    split at hc
    · rename_i hl
      cases hc
      rw [ha]
      have hlen := VRs.length _ _ h1
      have h4 : (loadCells ad i.size).run P w = .ok (us.take i.size).toArray w := by
        have := run_loadCells_list (P := P) w ad (us.take i.size) (fun j v hv => by
          rw [List.getElem?_take] at hv
          split at hv
          · exact h3 j v hv
          · cases hv)
        rwa [List.length_take, Nat.min_eq_left (by omega)] at this
      refine ⟨.agg (us.take i.size).toArray, by simp [run_size e1, e2, h4], ?_⟩
      simp only [VR]
      refine ⟨us.take i.size, rfl, VRs.take _ _ _ h1, ?_⟩
      rw [List.all_eq_true] at h2 ⊢
      exact fun x hx => h2 x (List.mem_of_mem_take hx)
    · cases hc
  · rename_i ha
    rw [Bool.not_eq_true] at ha
    rw [ha]
    obtain ⟨v, k1, k2⟩ := VRs.get _ _ h1 0 c (by rwa [← List.head?_eq_getElem?])
    have := h3 0 v k1
    rw [add_zero] at this
    exact ⟨v, by simp [this], k2⟩

/-! ### Addresses -/
def cindex (tab : List (Nat × TI)) (t : TypeId) (x : CV) (i : Int) : Option CV :=
  match assoc tab t with
  | none => none
  | some it =>
    match it.d with
    | .sl e =>
      match assoc tab e with
      | none => none
      | some ie =>
        match x with
        | .tsl cs n => if 0 ≤ i ∧ i < n then some (.tptr (cs.drop (i.toNat * ie.size))) else none
        | .osl o off n => if 0 ≤ i ∧ i < n then some (.optr o (off + i.toNat * ie.size)) else none
        | _ => none
    | .arr n e =>
      match assoc tab e with
      | none => none
      | some ie =>
        match x with
        | .tptr cs => if 0 ≤ i ∧ i < n then some (.tptr (cs.drop (i.toNat * ie.size))) else none
        | .optr o off => if 0 ≤ i ∧ i < n then some (.optr o (off + i.toNat * ie.size)) else none
        | _ => none
    | _ => none

theorem und_sl {t e : TypeId} {i : TI} (hT : TIok P t i) (hd : i.d = .sl e) : P.underlying t = some (.slice e) := by
  obtain ⟨d, h1, h2⟩ := hT.und
  rw [hd] at h2
  cases d <;> simp only [tdOf] at h2 <;> first | cases h2 | skip
  exact h1
theorem und_arr {t e : TypeId} {n : Nat} {i : TI} (hT : TIok P t i) (hd : i.d = .arr n e) : P.underlying t = some (.array n e) := by
  obtain ⟨d, h1, h2⟩ := hT.und
  rw [hd] at h2
  cases d <;> simp only [tdOf] at h2 <;> first | cases h2 | skip
  exact h1
theorem und_strct {t : TypeId} {fs : List (Nat × TypeId)} {i : TI} (hT : TIok P t i) (hd : i.d = .strct fs) : ∃ fields, P.underlying t = some (.struct fields) ∧ fields.toList.map (fun f => (f.offset, f.type)) = fs := by
  obtain ⟨d, h1, h2⟩ := hT.und
  rw [hd] at h2
  cases d <;> simp only [tdOf] at h2 <;> first | cases h2 | skip
  exact ⟨_, h1, rfl⟩
theorem und_bool {t : TypeId} {i : TI} (hT : TIok P t i) (hd : i.d = .bool) : P.underlying t = some .bool := by
  obtain ⟨d, h1, h2⟩ := hT.und
  rw [hd] at h2
  cases d <;> simp only [tdOf] at h2 <;> first | cases h2 | skip
  exact h1

theorem cindex_ok {tab : List (Nat × TI)} (ht : TabOk P tab) {F : Nat → Prop} {t : TypeId} {x c : CV} {v : Value} {i : Int} {k : IntKind} (hv : VR w F σ x v) (hc : cindex tab t x i = some c) :
    ∃ u, (∀ w', (Instr.indexAt t v (.int k i)).run P w' = .ok u w') ∧ VR w F σ c u := by
  unfold cindex at hc
  split at hc
  · cases hc
  rename_i it hit
  have hT := ht t it hit
  split at hc
  · rename_i e hd
    split at hc
    · cases hc
    rename_i ie hie
    obtain ⟨f, z, e1, e2, _⟩ := (ht e ie hie).info
    have hu := und_sl hT hd
    split at hc
    · rename_i cs n
      split at hc
      · rename_i hb
        cases hc
        simp only [VR, VRt] at hv
        obtain ⟨A, cap, rfl, _, _, h4⟩ := hv
        rcases h4 with ⟨h4, _⟩ | ⟨ad, rfl, hm⟩
        · omega
        · refine ⟨.pointer (some (ad.add (i.toNat * ie.size))), ?_, by simp only [VR, VRt]; exact ⟨_, rfl, MRt.drop _ _ _ hm⟩⟩
          intro w'; simp [Instr.indexAt, asIntOf, run_und hu, run_size e1, e2, hb]
      · cases hc
    · rename_i o off n
      split at hc
      · rename_i hb
        cases hc
        simp only [VR] at hv
        obtain ⟨B, hB, hv⟩ := hv
        split at hv
        · obtain ⟨rfl, _, h0⟩ := hv; omega
        · rename_i b hb'
          obtain ⟨cap, rfl, _⟩ := hv
          refine ⟨.pointer (some ⟨b, off + i.toNat * ie.size, none⟩), ?_, by simp only [VR]; exact ⟨B, b, hB, hb', rfl⟩⟩
          intro w'; simp [Instr.indexAt, asIntOf, run_und hu, run_size e1, e2, hb, add_lit]
      · cases hc
    · cases hc
  · rename_i n e hd
    split at hc
    · cases hc
    rename_i ie hie
    obtain ⟨f, z, e1, e2, _⟩ := (ht e ie hie).info
    have hu := und_arr hT hd
    split at hc
    · rename_i cs
      split at hc
      · rename_i hb
        cases hc
        simp only [VR, VRt] at hv
        obtain ⟨ad, rfl, hm⟩ := hv
        refine ⟨.pointer (some (ad.add (i.toNat * ie.size))), ?_, by simp only [VR, VRt]; exact ⟨_, rfl, MRt.drop _ _ _ hm⟩⟩
        intro w'; simp [Instr.indexAt, asIntOf, run_und hu, run_size e1, e2, hb, Instr.sureAddr]
      · cases hc
    · rename_i o off
      split at hc
      · rename_i hb
        cases hc
        simp only [VR] at hv
        obtain ⟨B, b, hB, hb', rfl⟩ := hv
        refine ⟨.pointer (some ⟨b, off + i.toNat * ie.size, none⟩), ?_, by simp only [VR]; exact ⟨B, b, hB, hb', rfl⟩⟩
        intro w'; simp [Instr.indexAt, asIntOf, run_und hu, run_size e1, e2, hb, Instr.sureAddr, add_lit]
      · cases hc
    · cases hc
  · cases hc

def cfieldAddr (tab : List (Nat × TI)) (t : TypeId) (x : CV) (f : Nat) : Option CV :=
  match assoc tab t with
  | none => none
  | some it =>
    match it.d with
    | .strct fs =>
      match fs[f]? with
      | none => none
      | some (off, ft) =>
        match assoc tab ft with
        | none => none
        | some ie =>
          if ie.size = 0 then none else
          match x with
          | .tptr cs => some (.tptr (cs.drop off))
          | .optr o p => some (.optr o (p + off))
          | _ => none
    | _ => none

theorem cfieldAddr_ok {tab : List (Nat × TI)} (ht : TabOk P tab) {F : Nat → Prop} {t : TypeId} {x c : CV} {v : Value} {f : Nat} (hv : VR w F σ x v) (hc : cfieldAddr tab t x f = some c) :
    ∃ u, (∀ w', (Instr.fieldAt t v f).run P w' = .ok u w') ∧ VR w F σ c u := by
  unfold cfieldAddr at hc
  split at hc
  · cases hc
  rename_i it hit
  have hT := ht t it hit
  split at hc
  · rename_i fs hd
    split at hc
    · cases hc
    rename_i off ft hf
    split at hc
    · cases hc
    rename_i ie hie
    obtain ⟨g, z, e1, e2, _⟩ := (ht ft ie hie).info
    obtain ⟨fields, hu, hfs⟩ := und_strct hT hd
    have hf' : ∃ fl : Field, fields[f]? = some fl ∧ fl.offset = off ∧ fl.type = ft := by
      rw [← hfs, List.getElem?_map] at hf
      obtain ⟨fl, h1, h2⟩ := Option.map_eq_some_iff.1 hf
      simp only [Prod.mk.injEq] at h2
      exact ⟨fl, by simpa using h1, h2⟩
    obtain ⟨fl, hf1, rfl, rfl⟩ := hf'
    split at hc
    · cases hc
    rename_i hz
    split at hc
    · rename_i cs
      cases hc
      simp only [VR, VRt] at hv
      obtain ⟨ad, rfl, hm⟩ := hv
      refine ⟨.pointer (some (ad.add fl.offset)), ?_, by simp only [VR, VRt]; exact ⟨_, rfl, MRt.drop _ _ _ hm⟩⟩
      intro w'; simp [Instr.fieldAt, run_und hu, hf1, Instr.sureAddr, fieldPlace, run_size e1, e2, hz]
    · rename_i o p
      cases hc
      simp only [VR] at hv
      obtain ⟨B, b, hB, hb', rfl⟩ := hv
      refine ⟨.pointer (some ⟨b, p + fl.offset, none⟩), ?_, by simp only [VR]; exact ⟨B, b, hB, hb', rfl⟩⟩
      intro w'; simp [Instr.fieldAt, run_und hu, hf1, Instr.sureAddr, fieldPlace, run_size e1, e2, hz, add_lit]
    · cases hc
  · cases hc

/-! ### A part of a struct or an array -/
theorem part_ok {t : TypeId} {i : TI} (hT : TIok P t i) {F : Nat → Prop} {cs : List CV} {vs : List Value} {c : CV} (h1 : VRs w F σ cs vs) (h2 : cs.all one = true) (off : Nat) (hc : cload i (cs.drop off) = some c) :
    ∃ v, (part t vs.toArray off).run P w = .ok v w ∧ VR w F σ c v := by
  obtain ⟨f, z, e1, e2, _⟩ := hT.info
  have h1' := VRs.drop off _ _ h1
  have h2' : (cs.drop off).all one = true := by
    rw [List.all_eq_true] at h2 ⊢
    exact fun x hx => h2 x (List.mem_of_mem_drop hx)
  unfold cload at hc
  simp only [part, Sem.run_bind, run_isAgg hT, Result.andThen_ok]
  split at hc
  · rename_i ha
    split at hc
    · rename_i hl
      cases hc
      rw [ha]
      refine ⟨.agg ((vs.drop off).take i.size).toArray, ?_, ?_⟩
      · simp [run_size e1, e2, List.take_drop]
      · simp only [VR]
        refine ⟨_, rfl, VRs.take _ _ _ h1', ?_⟩
        rw [List.all_eq_true] at h2' ⊢
        exact fun x hx => h2' x (List.mem_of_mem_take hx)
    · cases hc
  · rename_i ha
    rw [Bool.not_eq_true] at ha
    rw [ha]
    obtain ⟨v, k1, k2⟩ := VRs.get _ _ h1' 0 c (by rwa [← List.head?_eq_getElem?])
    rw [List.getElem?_drop] at k1
    refine ⟨v, ?_, k2⟩
    have : vs.toArray[off]? = some v := by simpa using k1
    simp [this]

def cfield (tab : List (Nat × TI)) (t : TypeId) (x : CV) (f : Nat) : Option CV :=
  match assoc tab t with
  | none => none
  | some it =>
    match it.d with
    | .strct fs =>
      match fs[f]? with
      | none => none
      | some (off, ft) =>
        match assoc tab ft with
        | none => none
        | some ie =>
          match x with
          | .agg cs => cload ie (cs.drop off)
          | _ => none
    | _ => none

theorem cfield_ok {tab : List (Nat × TI)} (ht : TabOk P tab) {F : Nat → Prop} {t : TypeId} {x c : CV} {v : Value} {f : Nat} (hv : VR w F σ x v) (hc : cfield tab t x f = some c) :
    ∃ u, (Instr.field t v f).run P w = .ok u w ∧ VR w F σ c u := by
  unfold cfield at hc
  split at hc
  · cases hc
  rename_i it hit
  have hT := ht t it hit
  split at hc
  · rename_i fs hd
    split at hc
    · cases hc
    rename_i off ft hf
    split at hc
    · cases hc
    rename_i ie hie
    obtain ⟨fields, hu, hfs⟩ := und_strct hT hd
    have hf' : ∃ fl : Field, fields[f]? = some fl ∧ fl.offset = off ∧ fl.type = ft := by
      rw [← hfs, List.getElem?_map] at hf
      obtain ⟨fl, h1, h2⟩ := Option.map_eq_some_iff.1 hf
      simp only [Prod.mk.injEq] at h2
      exact ⟨fl, by simpa using h1, h2⟩
    obtain ⟨fl, hf1, rfl, rfl⟩ := hf'
    split at hc
    · rename_i cs
      simp only [VR] at hv
      obtain ⟨vs, rfl, h1, h2⟩ := hv
      obtain ⟨u, k1, k2⟩ := part_ok (P := P) (ht _ _ hie) h1 h2 fl.offset hc
      exact ⟨u, by simp [Instr.field, run_und hu, hf1, asAgg, k1], k2⟩
    · cases hc
  · cases hc

def cindexv (tab : List (Nat × TI)) (t : TypeId) (x : CV) (i : Int) : Option CV :=
  match x with
  | .str s => match assoc tab t with
    | some it => match it.d with
      | .str => if 0 ≤ i then (s[i.toNat]?).map fun b => .int .u8 b.toNat else none
      | _ => none
    | none => none
  | .agg cs => match assoc tab t with
    | some it => match it.d with
      | .arr n e => match assoc tab e with
        | some ie => if 0 ≤ i ∧ i < n then cload ie (cs.drop (i.toNat * ie.size)) else none
        | none => none
      | _ => none
    | none => none
  | _ => none

theorem und_str {t : TypeId} {i : TI} (hT : TIok P t i) (hd : i.d = .str) : P.underlying t = some .string := by
  obtain ⟨d, h1, h2⟩ := hT.und
  rw [hd] at h2
  cases d <;> simp only [tdOf] at h2 <;> first | cases h2 | skip
  exact h1

theorem cindexv_ok {tab : List (Nat × TI)} (ht : TabOk P tab) {F : Nat → Prop} {t : TypeId} {x c : CV} {v : Value} {i : Int} {k : IntKind} (hv : VR w F σ x v) (hc : cindexv tab t x i = some c) :
    ∃ u, (Instr.index t v (.int k i)).run P w = .ok u w ∧ VR w F σ c u := by
  unfold cindexv at hc
  split at hc
  · rename_i s'
    split at hc
    · rename_i it hit
      split at hc
      · rename_i hd
        split at hc
        · rename_i h0
          obtain ⟨b, hb, rfl⟩ := Option.map_eq_some_iff.1 hc
          simp only [VR] at hv
          subst hv
          exact ⟨.int .u8 b.toNat, by simp [Instr.index, asIntOf, run_und (und_str (ht t it hit) hd), h0, hb], VR_int _ _⟩
        · cases hc
      · cases hc
    · cases hc
  · rename_i cs
    split at hc
    · rename_i it hit
      split at hc
      · rename_i n e hd
        split at hc
        · rename_i ie hie
          split at hc
          · rename_i hb
            simp only [VR] at hv
            obtain ⟨vs, rfl, h1, h2⟩ := hv
            obtain ⟨f, z, e1, e2, _⟩ := (ht e ie hie).info
            obtain ⟨u, k1, k2⟩ := part_ok (P := P) (ht e ie hie) h1 h2 _ hc
            exact ⟨u, by simp [Instr.index, asIntOf, run_und (und_arr (ht t it hit) hd), hb, run_size e1, e2, k1], k2⟩
          · cases hc
        · cases hc
      · cases hc
    · cases hc
  · cases hc
end
end Go.Can
