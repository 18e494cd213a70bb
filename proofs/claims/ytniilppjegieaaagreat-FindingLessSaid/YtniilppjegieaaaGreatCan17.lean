/- append onto a slice that is named again afterwards (in place, or moved); append of made zeros; cells forgotten. No function of the program is mentioned here. -/
import Derived.Test.YtniilppjegieaaaGreatCan16
namespace Go.Can
open Go.RowKit

section
variable {P : Program} {C : Cx} {σ : Nat → Option OB} {s : St} {a : Act} {w : World} {ops : Array Oper} {tab : List (Nat × TI)}

/-- An operation that ends in one of the states of S. -/
theorem TL.exec {o : Oper} {l : List Oper} {K : St → Prop} (_hd : dstOk C.nt o.dst = true) (hg : guardS ops s o = some true) (S : St → Prop)
    (hx : ∀ a w, Rel C s a w → ∃ z w' s', (execOp a.eval o).run P w = .ok (.value z) w' ∧ S s' ∧ Rel C s' (a.put o.dst z) w') (h : ∀ s', S s' → TL P C ops l s' K) : TL P C ops (o :: l) s K := by
  intro a w Q hr hQ
  have hw : Region.wanted o (yielded ops a.tmps) = true := by
    unfold guardS at hg
    split at hg
    · rename_i e; simp [Region.wanted, e]
    · rename_i j want e
      split at hg
      · cases hg
      rename_i t hj
      exact wanted_of hr e hj hg
  obtain ⟨z, w', s', k1, k2, k3⟩ := hx a w hr
  unfold wpList
  rw [if_pos hw]
  refine .inl ?_
  unfold Oper.wp
  rw [k1]
  exact h s' k2 _ _ Q k3 hQ

/-- The first k operations alone. -/
theorem TL.some (ht : TabOk P tab) {K : St → Prop} : ∀ (k : Nat) {l : List Oper} {s : St}, okS (fun s' => TL P C ops (l.drop k) s' K) (stepL tab C.nt ops (l.take k) s) → TL P C ops l s K
  | 0, _, _, h => h
  | k + 1, [], _, h => h
  | k + 1, o :: l, s, h => by
    rw [List.take_succ_cons, stepL_cons] at h
    cases hs : gstep tab C.nt ops s o with
    | none => rw [hs] at h; exact h.elim
    | some s' =>
      rw [hs] at h
      exact TL.step ht hs (TL.some ht k h)

/-- The cells behind the first k are forgotten. -/
def St.cut (s : St) (o : Nat) (ob : Ob) (k : Nat) : St := { s with heap := upd s.heap o { ob with cells := ob.cells.take k } }
theorem Le.cut {s : St} {o : Nat} {ob : Ob} (k : Nat) (ho : assoc s.heap o = some ob) : Le C s (s.cut o ob k) := by
  intro a w ⟨σ, h⟩
  have hup : ∀ {p y}, assoc (upd s.heap o { ob with cells := ob.cells.take k }) p = some y → (p = o ∧ y = { ob with cells := ob.cells.take k }) ∨ (p ≠ o ∧ assoc s.heap p = some y) := fun {p y} hp => by
    rw [assoc_upd] at hp
    split at hp
    · rename_i e; subst e; rw [ho] at hp; cases hp; exact .inl ⟨rfl, rfl⟩
    · rename_i e; exact .inr ⟨Ne.symm e, hp⟩
  have hex : ∀ {p y}, assoc (upd s.heap o { ob with cells := ob.cells.take k }) p = some y → ∃ z, assoc s.heap p = some z := fun {p y} hp => by
    rcases hup hp with ⟨rfl, _⟩ | ⟨_, hp⟩
    · exact ⟨_, ho⟩
    · exact ⟨_, hp⟩
  refine ⟨σ, h.dfr, h.tm, h.os, h.tape, h.output, h.size, h.frame, ?_, ?_, ?_, h.nx, h.old, h.low, h.new⟩
  · intro t c hc
    simp only [St.cut, FB_upd]
    exact h.env t c hc
  · intro p x hp
    simp only [St.cut] at hp ⊢
    rcases hup hp with ⟨rfl, rfl⟩ | ⟨_, hp'⟩
    · obtain ⟨B, m1, m2, m3, m4, m5⟩ := h.obj p ob ho
      refine ⟨B, m1, m2, fun hn => by simp [m3 hn], ?_, fun b hb => ?_⟩
      · rw [List.all_eq_true] at m4 ⊢
        exact fun x hx => m4 x (List.mem_of_mem_take hx)
      · obtain ⟨cur, n1, n2, n3, n4, n5, n6⟩ := m5 b hb
        refine ⟨cur, n1, n2, n3, n4, by simp only [List.length_take]; omega, ?_⟩
        simp only [FB_upd]
        have := VRs.take k _ _ n6
        rw [List.take_take] at this
        simpa only [List.length_take] using this
    · obtain ⟨B, m1, m2, m3, m4, m5⟩ := h.obj p x hp'
      refine ⟨B, m1, m2, m3, m4, fun b hb => ?_⟩
      obtain ⟨cur, n1, n2, n3, n4, n5, n6⟩ := m5 b hb
      exact ⟨cur, n1, n2, n3, n4, n5, by simp only [FB_upd]; exact n6⟩
  · intro p q x y b hp hq hbp hbq
    obtain ⟨z1, hz1⟩ := hex hp
    obtain ⟨z2, hz2⟩ := hex hq
    exact h.inj p q z1 z2 b hz1 hz2 hbp hbq

/-- append, the base still named: in place, or moved. -/
def App2 (s : St) (d : Option Tmp) (o n m : Nat) (ob : Ob) (news : List CV) (s' : St) : Prop :=
  s' = St.put { s with heap := upd s.heap o { ob with cells := ob.cells ++ news } } d (.osl o 0 (n + m)) ∨ s' = (s.new ob.elem ob.sz (ob.cells ++ news)).put d (.osl s.nx 0 (n + m))
theorem app2_ok (ht : TabOk P tab) {o : Oper} {cl : Call} {t e : TypeId} {x y : Operand} {p n m : Nat} {q : CV} {ob : Ob} {ie : TI} {news : List CV} (hd : dstOk C.nt o.dst = true) (ho : o.op = .call cl) (hcl : cl.callee = .builtin .append) (hargs : cl.args = #[x, y]) (hts : cl.argTypes = #[t, t])
    (h1 : tdAt tab t = some (.sl e)) (h2 : assoc tab e = some ie) (h3 : ev s x = some (.osl p 0 n)) (h4 : ev s y = some q) (h5 : cells? s q = some (news, m)) (h6 : assoc s.heap p = some ob)
    (_b1 : 0 < ie.size) (b2 : 0 < ie.bytes) (b3 : news.length = m * ie.size) (b4 : ob.elem = e) (b5 : ob.sz = ie.size) (b6 : n * ie.size = ob.cells.length) (b7 : (n + m) * ie.bytes ≤ 140737488355328) (b8 : 0 < m) :
    ∀ a w, Rel C s a w → ∃ z w' s', (execOp a.eval o).run P w = .ok (.value z) w' ∧ App2 s o.dst p n m ob news s' ∧ Rel C s' (a.put o.dst z) w' := by
  rintro a w ⟨σ, h⟩
  subst b4
  have hd' : ∀ t, o.dst = some t → t < a.tmps.size := fun t e => by
    rw [h.tm]
    rw [e] at hd
    simpa [dstOk] using hd
  obtain ⟨it, hit, hd1⟩ := Option.map_eq_some_iff.1 h1
  obtain ⟨f, z, g1, g2, g3, g4, g5⟩ := (ht ob.elem ie h2).info
  obtain ⟨k1, k2⟩ := constCVs_ok (w := w) (F := FB C σ s.heap) _ _ g5
  have hzs : z.cells.size = f.size := by rw [g2, ← (ht ob.elem ie h2).len, ← VRts.length _ _ k1]; simp
  have hu := und_sl (ht t it hit) hd1
  obtain ⟨us, u1, u2, u3⟩ := cells?_ok h (ev_ok h h4) h5
  have ul := VRs.length _ _ u1
  have uo := VRs.one_cells _ _ u2 u1
  have hx := ev_ok h h3
  have hrun : ∀ {v' w'}, (Builtin.append_ #[t, t] o.type #[a.eval x, a.eval y]).run P w = .ok v' w' → (execOp a.eval o).run P w = .ok (.value v') w' := fun {v' w'} hr => by
    simp [execOp, ho, resolve, hcl, hargs, hts, invoke, builtin, hr]
  have hm : n + m ≤ maxLen := by
    have : n + m ≤ (n + m) * ie.bytes := Nat.le_mul_of_pos_right _ b2
    simp only [maxLen]; omega
  have hsmall : n + m ≤ 9223372036854775807 := by simp only [maxLen] at hm; omega
  rcases u3 with ⟨c, _, hm0, _⟩ | ⟨ad, c, hy, hcell⟩
  · omega
  have ul' : us.length = m * f.size := by rw [ul, b3, g2]
  -- what the growing arm leaves
  have grown : ∀ (old : Nat) (xs : List Value), xs.length = n * f.size → VRs w (FB C σ s.heap) σ ob.cells xs →
      Rel C ((s.new ob.elem ob.sz (ob.cells ++ news)).put o.dst (.osl s.nx 0 (n + m))) (a.put o.dst (.slice (some ⟨w.heap.size, 0, none⟩) (n + m) (grownCap w (n + m) old ob.elem)))
        (w.drew.alloc (.cells (xs.toArray ++ us.toArray ++ Builtin.zeroCells z.cells (grownCap w (n + m) old ob.elem - (n + m))) ob.elem)) := by
    intro old xs xl xr
    have hge := grownCap_ge w (n + m) old ob.elem
    have hcm : grownCap w (n + m) old ob.elem ≤ maxLen := grownCap_le_maxLen w (n + m) old ob.elem hm
    have hsz : (xs.toArray ++ us.toArray ++ Builtin.zeroCells z.cells (grownCap w (n + m) old ob.elem - (n + m))).size = grownCap w (n + m) old ob.elem * f.size := by
      simp only [Array.size_append, List.size_toArray, size_zeroCells, hzs, xl, ul', ← Nat.add_mul]
      congr 1; omega
    obtain ⟨_, _, _, _, m4, _⟩ := h.obj p ob h6
    have hlen : (ob.cells ++ news).length = (xs ++ us).length := by rw [List.length_append, List.length_append, ← VRs.length _ _ xr, ul]
    have hfr := h.fresh (w' := w.drew.alloc (.cells (xs.toArray ++ us.toArray ++ Builtin.zeroCells z.cells (grownCap w (n + m) old ob.elem - (n + m))) ob.elem)) (ob := ⟨ob.elem, ob.sz, ob.cells ++ news⟩) (B := ⟨some w.heap.size, grownCap w (n + m) old ob.elem * f.size, ob.sz⟩)
      ⟨rfl, rfl, rfl, by simp, fun k hk _ => heap_alloc_old w.drew _ k hk⟩ rfl (by rw [List.all_append, m4, u2]; rfl) (fun hn => (by cases hn)) fun b hb => by
        cases hb
        refine ⟨Nat.le_refl _, _, heap_alloc_new w.drew _, hsz, ?_, ?_⟩
        · rw [hsz]
          show (ob.cells ++ news).length ≤ _
          rw [hlen, List.length_append, xl, ul', ← Nat.add_mul]
          exact Nat.mul_le_mul_right _ hge
        · show VRs w (FB C σ s.heap) σ (ob.cells ++ news) _
          rw [show (⟨ob.elem, ob.sz, ob.cells ++ news⟩ : Ob).cells.length = (xs ++ us).length from hlen]
          simp only [Array.toList_append]
          rw [List.take_append_of_le_length (by simp), List.take_of_length_le (by simp)]
          exact VRs.append _ _ _ _ xr u1
    refine ⟨_, hfr.1.put hd' ?_⟩
    simp only [VR]
    refine ⟨_, sig_same, grownCap w (n + m) old ob.elem, rfl, hge, hcm, ?_, fun _ => ?_⟩
    · rw [b5, g2]; simp
    · rw [b5, g2]
  simp only [VR] at hx
  obtain ⟨B, hB, hx⟩ := hx
  obtain ⟨B0, e1, e2, e3, e4, e5⟩ := h.obj p ob h6
  rw [hB] at e1; cases e1
  split at hx
  · rename_i hn
    obtain ⟨hv, _, rfl⟩ := hx
    have hr := run_append_nil (P := P) w t o.type ob.elem f z hu g1 g4 ad m c us ul' hcell b8 (by omega) (by
      have := b7
      rw [g3]; simp only [Nat.zero_add] at this; omega)
    have hg := grown 0 [] (by simp) (by rw [e3 hn]; simp [VRs])
    rw [← hv, ← hy] at hr
    exact ⟨_, _, _, hrun hr, .inr rfl, by simpa using hg⟩
  · rename_i b hbb
    obtain ⟨cap, hv, c1, c2, c3, c4⟩ := hx
    obtain ⟨cur, n1, n2, n3, n4, n5, n6⟩ := e5 b hbb
    have hcr := c4 trivial
    have hcs : cur.size = cap * f.size := by rw [n2, ← hcr, e2, b5, g2]
    have hlo : (cur.toList.take ob.cells.length).length = n * f.size := by
      rw [List.length_take, g2, ← b6]
      have : n * ie.size ≤ cap * ie.size := Nat.mul_le_mul_right _ c1
      rw [g2] at hcs
      simp; omega
    by_cases hroom : n + m ≤ cap
    · have hfit : n * f.size + us.length ≤ cur.size := by rw [ul', hcs, ← Nat.add_mul]; exact Nat.mul_le_mul_right _ hroom
      have hr := run_append_room (P := P) w t o.type ob.elem f hu g1 b n cap cur n1 ad m c us ul' hcell uo hroom hfit
      rw [← hv, ← hy] at hr
      have hnl : n * f.size = ob.cells.length := by rw [g2]; exact b6
      have hwr := h.write h6 hB hbb (cs' := ob.cells ++ news) (us' := cur.toList.take (n * f.size) ++ us ++ cur.toList.drop (n * f.size + us.length)) (by
          simp only [List.length_append, List.length_take, List.length_drop, Array.length_toList]; omega) (by
          simp only [List.length_append, List.length_take, List.length_drop, Array.length_toList]; omega) (by
          have hl2 : (ob.cells ++ news).length = (cur.toList.take (n * f.size) ++ us).length := by
            rw [hnl, List.length_append, List.length_append, hlo, ul, hnl]
          rw [hl2, List.take_append_of_le_length (Nat.le_refl _), List.take_of_length_le (Nat.le_refl _), hnl]
          exact VRs.append _ _ _ _ n6 u1) (by rw [List.all_append, e4, u2]; rfl)
      refine ⟨_, _, _, hrun hr, .inl rfl, σ, hwr.put hd' ?_⟩
      simp only [VR]
      refine ⟨B, hB, ?_⟩
      rw [hbb]
      refine ⟨cap, rfl, hroom, c2, ?_, fun _ => hcr⟩
      simp only [Nat.zero_add]; omega
    · have holds : ∀ j u, (cur.toList.take ob.cells.length)[j]? = some u → w.cell? ((⟨b, 0, none⟩ : Addr).add j) = some u := fun j u hu => by
        rw [add_lit, Nat.zero_add, cell_of_row w b j cur _ _ n1]
        rw [List.getElem?_take] at hu
        split at hu
        · simpa using hu
        · cases hu
      have hr := run_append_grow (P := P) w t o.type ob.elem f z hu g1 g4 ⟨b, 0, none⟩ n cap _ hlo holds ad m c us ul' hcell (by omega) (by omega) (growslice_fits (by omega) (by rw [g3]; exact b7))
      rw [← hv, ← hy] at hr
      exact ⟨_, _, _, hrun hr, .inr rfl, grown cap _ hlo n6⟩
end
end Go.Can
