/- Operations in any order: where those that are not ordered keep out of each other's way, one order speaks for all. (Functional states; effects with fixed results.) No function of the program is mentioned here. -/
import Derived.Test.YtniilppjegieaaaGreatCan30
namespace Go.Can
open Go.RowKit

structure FS where
  e : Nat → Option CV
  h : Nat → Option Ob
  n : Nat
/-- What an operation does: the value of its slot, the objects that it makes, turns or takes away, the numbers that it uses up. -/
structure Ef where
  r : Option CV
  w : List (Nat × Option Ob)
  k : Nat
/-- What an operation looks at: slots, objects, the next number, all objects but those of a range of numbers. -/
structure Vw where
  t : List Nat
  o : List Nat
  n : Bool
  a : Option (Nat × Nat)
def updH (h : Nat → Option Ob) (w : List (Nat × Option Ob)) : Nat → Option Ob := fun p => match assoc w p with
  | some y => y
  | none => h p
def ap (d : Option Tmp) (E : Ef) (x : FS) : FS := ⟨updE x.e d E.r, updH x.h E.w, x.n + E.k⟩
def Agree (V : Vw) (x y : FS) : Prop := (∀ t ∈ V.t, x.e t = y.e t) ∧ (∀ o ∈ V.o, x.h o = y.h o) ∧ (V.n = true → x.n = y.n) ∧ (∀ r, V.a = some r → ∀ o, o < r.1 ∨ r.2 ≤ o → x.h o = y.h o)
structure Ind (d d' : Option Tmp) (E E' : Ef) (V V' : Vw) : Prop where
  s1 : ∀ t, d = some t → t ∉ V'.t
  s2 : ∀ t, d' = some t → t ∉ V.t
  s3 : ∀ t, d = some t → d' ≠ some t
  h1 : ∀ o y, assoc E.w o = some y → o ∉ V'.o
  h2 : ∀ o y, assoc E'.w o = some y → o ∉ V.o
  h3 : ∀ o y, assoc E.w o = some y → assoc E'.w o = none
  n1 : V'.n = true → E.k = 0
  n2 : V.n = true → E'.k = 0
  a1 : ∀ r, V'.a = some r → ∀ o y, assoc E.w o = some y → r.1 ≤ o ∧ o < r.2
  a2 : ∀ r, V.a = some r → ∀ o y, assoc E'.w o = some y → r.1 ≤ o ∧ o < r.2

theorem Agree.refl (V : Vw) (x : FS) : Agree V x x := ⟨fun _ _ => rfl, fun _ _ => rfl, fun _ => rfl, fun _ _ _ _ => rfl⟩
theorem Agree.symm {V : Vw} {x y : FS} (h : Agree V x y) : Agree V y x := ⟨fun t ht => (h.1 t ht).symm, fun o ho => (h.2.1 o ho).symm, fun hn => (h.2.2.1 hn).symm, fun r ha o ho => (h.2.2.2 r ha o ho).symm⟩
theorem Agree.trans {V : Vw} {x y z : FS} (h : Agree V x y) (k : Agree V y z) : Agree V x z := ⟨fun t ht => (h.1 t ht).trans (k.1 t ht), fun o ho => (h.2.1 o ho).trans (k.2.1 o ho), fun hn => (h.2.2.1 hn).trans (k.2.2.1 hn), fun r ha o ho => (h.2.2.2 r ha o ho).trans (k.2.2.2 r ha o ho)⟩
theorem ap_comm {d d' : Option Tmp} {E E' : Ef} {V V' : Vw} (h : Ind d d' E E' V V') (x : FS) : ap d E (ap d' E' x) = ap d' E' (ap d E x) := by
  unfold ap
  congr 1
  · funext t
    simp only [updE]
    by_cases h1 : d = some t
    · rw [if_pos h1, if_neg (h.s3 t h1), if_pos h1]
    · rw [if_neg h1, if_neg h1]
  · funext p
    simp only [updH]
    cases h1 : assoc E.w p with
    | none => rfl
    | some y => rw [h.h3 p y h1]
  · simp only; omega
theorem ap_agree {V : Vw} {d : Option Tmp} {E : Ef} (h1 : ∀ t, d = some t → t ∉ V.t) (h2 : ∀ o y, assoc E.w o = some y → o ∉ V.o) (h3 : V.n = true → E.k = 0) (h4 : ∀ r, V.a = some r → ∀ o y, assoc E.w o = some y → r.1 ≤ o ∧ o < r.2) (x : FS) : Agree V (ap d E x) x := by
  refine ⟨fun t ht => ?_, fun o ho => ?_, fun hn => ?_, fun r ha o ho => ?_⟩
  · simp only [ap, updE]
    rw [if_neg (fun e => h1 t e ht)]
  · simp only [ap, updH]
    cases h5 : assoc E.w o with
    | none => rfl
    | some y => exact absurd ho (h2 o y h5)
  · simp only [ap, h3 hn]; rfl
  · simp only [ap, updH]
    cases h5 : assoc E.w o with
    | none => rfl
    | some y => have := h4 r ha o y h5; omega
theorem agree_ap {V : Vw} {d : Option Tmp} {E : Ef} {x y : FS} (h : Agree V x y) : Agree V (ap d E x) (ap d E y) := by
  refine ⟨fun t ht => ?_, fun o ho => ?_, fun hn => ?_, fun r ha o ho => ?_⟩
  · simp only [ap, updE]; rw [h.1 t ht]
  · simp only [ap, updH]; rw [h.2.1 o ho]
  · simp only [ap]; rw [h.2.2.1 hn]
  · simp only [ap, updH]; rw [h.2.2.2 r ha o ho]

def foldL (dst : Nat → Option Tmp) (E : Nat → Ef) (L : Nat → Bool) : List Nat → FS → FS
  | [], x => x
  | i :: r, x => foldL dst E L r (if L i then ap (dst i) (E i) x else x)
section
variable {dst : Nat → Option Tmp} {E : Nat → Ef}
theorem foldL_append {L : Nat → Bool} : ∀ (l m : List Nat) (x : FS), foldL dst E L (l ++ m) x = foldL dst E L m (foldL dst E L l x)
  | [], _, _ => rfl
  | i :: r, m, x => by simp only [List.cons_append, foldL]; exact foldL_append r m _
theorem foldL_congr {L L' : Nat → Bool} : ∀ (l : List Nat) (x : FS), (∀ i ∈ l, L i = L' i) → foldL dst E L l x = foldL dst E L' l x
  | [], _, _ => rfl
  | i :: r, x, h => by
    simp only [foldL]
    rw [h i (by simp)]
    exact foldL_congr r _ fun j hj => h j (by simp [hj])
theorem foldL_none : ∀ (l : List Nat) (x : FS), foldL dst E (fun _ => false) l x = x
  | [], _ => rfl
  | _ :: r, x => by simp only [foldL, Bool.false_eq_true, if_false]; exact foldL_none r x
theorem foldL_agree {V : Vw} {L L' : Nat → Bool} : ∀ (l : List Nat) (x y : FS), (∀ i ∈ l, L i ≠ L' i → ∀ z, Agree V (ap (dst i) (E i) z) z) → Agree V x y → Agree V (foldL dst E L l x) (foldL dst E L' l y)
  | [], _, _, _, h => h
  | i :: r, x, y, hd, h => by
    simp only [foldL]
    refine foldL_agree r _ _ (fun j hj => hd j (by simp [hj])) ?_
    cases h1 : L i <;> cases h2 : L' i <;> simp only [Bool.false_eq_true, if_false, if_true]
    · exact h
    · exact h.trans (hd i (by simp) (by rw [h1, h2]; simp) y).symm
    · exact (hd i (by simp) (by rw [h1, h2]; simp) x).trans h
    · exact agree_ap h
theorem foldL_comm {L : Nat → Bool} {d : Option Tmp} {G : Ef} : ∀ (l : List Nat) (x : FS), (∀ j ∈ l, L j = true → ∀ z, ap d G (ap (dst j) (E j) z) = ap (dst j) (E j) (ap d G z)) → foldL dst E L l (ap d G x) = ap d G (foldL dst E L l x)
  | [], _, _ => rfl
  | j :: r, x, h => by
    simp only [foldL]
    cases h1 : L j <;> simp only [Bool.false_eq_true, if_false, if_true]
    · exact foldL_comm r x fun k hk => h k (by simp [hk])
    · rw [← h j (by simp) h1 x]
      exact foldL_comm r _ fun k hk => h k (by simp [hk])
end

def Closed (ops : Array Oper) (listed : Array Bool) : Prop := ∀ j oj, ops[j]? = some oj → listed.getD j false = true → ∀ e ∈ oj.after, Region.binds .any e = true → listed.getD e.on false = true
/-- j waits for i, at once or through others. -/
def Beh (ops : Array Oper) (j i : Nat) : Prop := ∀ listed : Array Bool, Closed ops listed → (∀ oj, ops[j]? = some oj → ∀ e ∈ oj.after, Region.binds .any e = true → listed.getD e.on false = true) → listed.getD i false = true
def waitsT (ops : Array Oper) : Nat → Nat → Nat → Bool
  | 0, _, _ => false
  | f + 1, j, i => match ops[j]? with
    | some oj => oj.after.any fun e => Region.binds .any e && (e.on == i || waitsT ops f e.on i)
    | none => false
theorem waitsT_beh {ops : Array Oper} : ∀ (f j i : Nat), waitsT ops f j i = true → Beh ops j i
  | 0, _, _, h => by simp [waitsT] at h
  | f + 1, j, i, h => by
    intro listed hc hj
    simp only [waitsT] at h
    cases hoj : ops[j]? with
    | none => rw [hoj] at h; simp at h
    | some oj =>
      rw [hoj] at h
      simp only at h
      obtain ⟨e, he, hb⟩ := Array.any_eq_true'.1 h
      simp only [Bool.and_eq_true, Bool.or_eq_true, beq_iff_eq] at hb
      have hl := hj oj hoj e he hb.1
      rcases hb.2 with h1 | h1
      · rw [← h1]; exact hl
      · exact waitsT_beh f e.on i h1 listed hc fun ok hok e' he' hb' => hc e.on ok hok hl e' he' hb'

theorem trace_any {P : Program} {ops : Array Oper} {ord : List Nat} {dst : Nat → Option Tmp} {E : Nat → Ef} {V : Nat → Vw} {x0 : FS} {R : Array Bool → FS → Act → World → Prop} {Q' : Exit → Act → World → Prop}
    (hn : ord.Nodup) (hcov : ∀ j, j < ops.size → j ∈ ord) (hlt : ∀ i ∈ ord, i < ops.size)
    (hrd : ∀ pre i post, ord = pre ++ i :: post → ∀ oi, ops[i]? = some oi → ∀ e ∈ oi.after, Region.binds .any e = true → e.on ∈ pre)
    (hind : ∀ pre i post, ord = pre ++ i :: post → ∀ j ∈ post, Beh ops j i ∨ Ind (dst i) (dst j) (E i) (E j) (V i) (V j))
    (hstep : ∀ pre i post, ord = pre ++ i :: post → ∀ (listed : Array Bool) (x : FS) (a : Act) (w : World) (K : Act → World → Prop), listed.size = ops.size → listed.getD i false = false → R listed x a w → Agree (V i) x (foldL dst E (fun _ => true) pre x0) →
      (∀ a' w', R (listed.setIfInBounds i true) (ap (dst i) (E i) x) a' w' → K a' w') → wpOp P ops Q' i K a w)
    (hend : ∀ (listed : Array Bool) (a : Act) (w : World), R listed (foldL dst E (fun _ => true) ord x0) a w → Q' .normal a w) :
    ∀ (m : Nat) (listed : Array Bool) (a : Act) (w : World), listed.size = ops.size → Closed ops listed → (ord.countP fun j => !listed.getD j false) = m → R listed (foldL dst E (fun j => listed.getD j false) ord x0) a w → wpAny P .any ops Q' m listed a w := by
  intro m
  induction m with
  | zero =>
    intro listed a w hsz hcl hc hR
    have hall : ∀ j ∈ ord, listed.getD j false = true := fun j hj => by
      have := List.countP_eq_zero.1 hc j hj
      simpa using this
    refine ⟨?_, hend listed a w ?_⟩
    · rw [List.eq_nil_iff_forall_not_mem]
      intro j hj
      have h1 := getD_both (mem_ready.1 hj).1
      obtain ⟨_, o, ho, _⟩ := mem_ready.1 hj
      rw [hall j (hcov j (Array.getElem?_eq_some_iff.1 ho).1)] at h1
      cases h1
    · rwa [foldL_congr ord x0 (L' := fun _ => true) fun i hi => hall i hi] at hR
  | succ m ih =>
    intro listed a w hsz hcl hc hR
    have hex : ∃ i ∈ ord, listed.getD i false = false := by
      have : 0 < ord.countP fun j => !listed.getD j false := by omega
      obtain ⟨i, hi, h⟩ := List.countP_pos_iff.1 this
      exact ⟨i, hi, by simpa using h⟩
    refine ⟨fun h0 => ?_, fun i hi => ?_⟩
    · exfalso
      have : ∀ (l pre : List Nat), ord = pre ++ l → (∀ j ∈ pre, listed.getD j false = true) → (∃ i ∈ l, listed.getD i false = false) → False := by
        intro l
        induction l with
        | nil => rintro pre _ _ ⟨i, hi, _⟩; cases hi
        | cons k r ihl =>
          intro pre ho hp hx
          cases hk : listed.getD k false with
          | true =>
            refine ihl (pre ++ [k]) (by simp [ho]) ?_ ?_
            · intro j hj
              rcases List.mem_append.1 hj with hj | hj
              · exact hp j hj
              · have : j = k := by simpa using hj
                subst this; exact hk
            · obtain ⟨i, hi, hu⟩ := hx
              rcases List.mem_cons.1 hi with e | hi
              · subst e; rw [hk] at hu; cases hu
              · exact ⟨i, hi, hu⟩
          | false =>
            have hkl := hlt k (by rw [ho]; simp)
            have hok : ops[k]? = some ops[k] := by simp [hkl]
            have : k ∈ Region.ready .any ops listed := by
              refine mem_ready.2 ⟨unlisted_true (by rw [hsz]; exact hkl) hk, _, hok, fun e he hb => ?_⟩
              exact hp _ (hrd pre k r ho _ hok e he hb)
            rw [h0] at this
            cases this
      exact this ord [] rfl (by simp) hex
    · have hui : listed.getD i false = false := getD_both (mem_ready.1 hi).1
      obtain ⟨_, oi, hoi, hready⟩ := mem_ready.1 hi
      have hio : i ∈ ord := hcov i (Array.getElem?_eq_some_iff.1 hoi).1
      obtain ⟨pre, post, hord⟩ := List.append_of_mem hio
      have hnd := hn
      rw [hord, List.nodup_append, List.nodup_cons] at hnd
      have hpost : ∀ k ∈ post, listed.getD k false = true → Ind (dst i) (dst k) (E i) (E k) (V i) (V k) := fun k hk hl => by
        rcases hind pre i post hord k hk with h | h
        · have := h listed hcl fun ok hok e he hb => hcl k ok hok hl e he hb
          rw [hui] at this; cases this
        · exact h
      have hpre : ∀ k ∈ pre, listed.getD k false = false → Ind (dst k) (dst i) (E k) (E i) (V k) (V i) := fun k hk hl => by
        obtain ⟨p1, p2, hp⟩ := List.append_of_mem hk
        have ho2 : ord = p1 ++ k :: (p2 ++ i :: post) := by rw [hord, hp]; simp
        rcases hind p1 k _ ho2 i (by simp) with h | h
        · have := h listed hcl fun ok hok e he hb => by
            rw [hoi] at hok; cases hok
            exact hready e he hb
          rw [hl] at this; cases this
        · exact h
      have hsplit : foldL dst E (fun j => listed.getD j false) ord x0 = foldL dst E (fun j => listed.getD j false) post (foldL dst E (fun j => listed.getD j false) pre x0) := by
        rw [hord, foldL_append]
        simp only [foldL, hui, Bool.false_eq_true, if_false]
      refine hstep pre i post hord listed _ a w _ hsz hui hR ?_ fun a' w' hR' => ?_
      · rw [hsplit]
        have e1 : Agree (V i) (foldL dst E (fun j => listed.getD j false) post (foldL dst E (fun j => listed.getD j false) pre x0)) (foldL dst E (fun j => listed.getD j false) pre x0) := by
          have := foldL_agree (V := V i) (dst := dst) (E := E) (L := fun j => listed.getD j false) (L' := fun _ => false) post _ _ (fun k hk hne z => by
            have hl : listed.getD k false = true := by cases h : listed.getD k false <;> simp_all
            have h := hpost k hk hl
            exact ap_agree h.s2 h.h2 h.n2 h.a2 z) (Agree.refl (V i) (foldL dst E (fun j => listed.getD j false) pre x0))
          rwa [foldL_none] at this
        refine e1.trans (foldL_agree pre _ _ (fun k hk hne z => ?_) (Agree.refl _ _))
        have hl : listed.getD k false = false := by cases h : listed.getD k false <;> simp_all
        have h := hpre k hk hl
        exact ap_agree h.s1 h.h1 h.n1 h.a1 z
      · have hil : i < listed.size := by rw [hsz]; exact hlt i hio
        refine ih _ a' w' (by simpa using hsz) ?_ ?_ ?_
        · intro j oj hj hl e he hb
          by_cases hij : i = j
          · subst hij
            have : oj = oi := Option.some.inj (hj.symm.trans hoi)
            subst this
            exact getD_set_true (hready e he hb)
          · rw [getD_set_ne false hij] at hl
            exact getD_set_true (hcl j oj hj hl e he hb)
        · have := count_set ord i listed hn hio hil hui
          omega
        · have hself : (listed.setIfInBounds i true).getD i false = true := by simp [hil]
          have key : foldL dst E (fun j => (listed.setIfInBounds i true).getD j false) ord x0 = ap (dst i) (E i) (foldL dst E (fun j => listed.getD j false) ord x0) := by
            rw [hsplit, hord, foldL_append]
            simp only [foldL, hself, if_true]
            rw [foldL_congr pre x0 (L' := fun j => listed.getD j false) fun k hk => getD_set_ne false (fun e => by subst e; exact hnd.2.2 i hk i (by simp) rfl)]
            rw [foldL_congr post _ (L' := fun j => listed.getD j false) fun k hk => getD_set_ne false (fun e => by subst e; exact hnd.2.1.1 hk)]
            exact foldL_comm post _ fun k hk hl z => ap_comm (hpost k hk hl) z
          rw [key]
          exact hR'
end Go.Can
