/- append of made zeros onto an own slice. No function of the program is mentioned here. -/
import Derived.Test.YtniilppjegieaaaGreatCan17
namespace Go.Can
open Go.RowKit

section
variable {P : Program} {C : Cx} {σ : Nat → Option OB} {s : St} {a : Act} {w : World} {ops : Array Oper} {tab : List (Nat × TI)}

theorem wrap_nat {m : Nat} (h : m ≤ 9223372036854775807) : IntKind.i64.wrap (m : Int) = m := by
  simp [IntKind.wrap, IntKind.signed, IntKind.bits]
  omega

theorem run_append_zeros (t it ty e : TypeId) (i : TypeInfo) (z : Value) (size bytes : Nat) (ht : P.underlying t = some (.slice e)) (hit : P.underlying it = some (.int .i64)) (hi : P.info? e = some i) (hz : i.zero = some z)
    (hsize : i.size = size) (hby : i.bytes = bytes) (hzs : z.cells.size = size) (hsz : 0 < size) (v : Value) (n : Nat) (xs : List Value) (hown : w.ownsRow 0 e size v n xs) (m : Nat) (hm : 0 < m)
    (h63 : n + m ≤ maxLen) (hbytes : (n + m) * bytes ≤ 140737488355328) (hb0 : 0 < bytes) (h1 : ∀ u ∈ (Builtin.zeroCells z.cells m).toList, u.oneCell' = true) :
    ∃ v' w', (Builtin.append_ #[t, it] ty #[v, .int .i64 m]).run P w = .ok v' w' ∧ w'.ownsRow 0 e size v' (n + m) (xs ++ (Builtin.zeroCells z.cells m).toList) ∧ w.grownBy w' v.ownBlock ∧ (v'.ownBlock = v.ownBlock ∨ v'.ownBlock = some w.heap.size) := by
  subst hsize
  subst hby
  have hsmall : n + m ≤ 9223372036854775807 := by simp only [maxLen] at h63; omega
  have hwm : IntKind.i64.wrap (m : Int) = m := wrap_nat (by omega)
  have hmz : ¬ ((m : Int) < 0) := by omega
  have hms : m * i.size ≠ 0 := Nat.ne_of_gt (Nat.mul_pos hm hsz)
  have hm0 : m ≠ 0 := by omega
  have hs0 : i.size ≠ 0 := by omega
  have hmb : ¬ ((281474976710656 : Int) < (m : Int) * (i.bytes : Int)) := by
    have h2 : m * i.bytes ≤ (n + m) * i.bytes := Nat.mul_le_mul_right _ (by omega)
    have h3 : ((m * i.bytes : Nat) : Int) = (m : Int) * (i.bytes : Int) := by simp
    omega
  have hnl : (Builtin.zeroCells z.cells m).toList.length = m * i.size := by simp [size_zeroCells, hzs]
  have hlen : (xs ++ (Builtin.zeroCells z.cells m).toList).length = (n + m) * i.size := by rw [List.length_append, hown.1, hnl, Nat.add_mul]
  have grown : ∀ (old : Nat), old < n + m → ∀ (row : Option Nat),
      (w.drew.alloc (.cells (xs.toArray ++ Builtin.zeroCells z.cells m ++ Builtin.zeroCells z.cells (grownCap w (n + m) old e - (n + m))) e)).ownsRow 0 e i.size
        (.slice (some ⟨w.heap.size, 0, none⟩) (n + m) (grownCap w (n + m) old e)) (n + m) (xs ++ (Builtin.zeroCells z.cells m).toList) ∧
      w.grownBy (w.drew.alloc (.cells (xs.toArray ++ Builtin.zeroCells z.cells m ++ Builtin.zeroCells z.cells (grownCap w (n + m) old e - (n + m))) e)) row := by
    intro old _ row
    have hge := grownCap_ge w (n + m) old e
    have hcm : grownCap w (n + m) old e ≤ maxLen := grownCap_le_maxLen w (n + m) old e h63
    refine ⟨⟨hlen, .inr ⟨w.heap.size, _, _, rfl, Nat.zero_le _, heap_alloc_new w.drew _, hge, hcm, ?_, ?_⟩⟩, ⟨rfl, rfl, rfl, by simp, fun k hk _ => heap_alloc_old w.drew _ k hk⟩⟩
    · simp only [Array.size_append, List.size_toArray, size_zeroCells, hzs, hown.1, ← Nat.add_mul]
      congr 1
      omega
    · simp only [Array.toList_append, List.append_assoc]
      rw [← List.append_assoc, ← hlen]
      exact List.take_left
  rcases hown.2 with ⟨rfl, rfl⟩ | ⟨g, cap, cur, rfl, hbg, hg, hnc, hcm, hcs, htake⟩
  · have hx : xs = [] := List.eq_nil_of_length_eq_zero (by simpa using hown.1)
    subst hx
    have h48 : ¬ (281474976710656 < Builtin.nextslicecap m 0 * i.bytes) := by
      rw [nextslicecap_zero hm]
      have := hbytes
      simp only [Nat.zero_add] at this; omega
    have h63' : ¬ (9223372036854775807 < (m : Int)) := by omega
    have hr : (Builtin.append_ #[t, it] ty #[.slice none 0 0, .int .i64 m]).run P w = .ok (.slice (some ⟨w.heap.size, 0, none⟩) m (grownCap w m 0 e))
        (w.drew.alloc (.cells (Builtin.zeroCells z.cells m ++ Builtin.zeroCells z.cells (grownCap w m 0 e - m)) e)) := by
      simp [Builtin.append_, run_underlying ht, run_underlying hit, sizeOf, typeInfo, zeroValue, hi, hz, asInt, asIntOf, hwm, hmz, hmb, hm0, h48, h63', Question.forced, run_firstCells_none, newRow, grownCap]
      exact fun h => absurd h hms
    have hgr := grown 0 (by omega) (Value.ownBlock (.slice none 0 0))
    simp only [Nat.zero_add] at hgr ⊢
    have ea : ([] : List Value).toArray ++ Builtin.zeroCells z.cells m = Builtin.zeroCells z.cells m := by simp
    rw [ea] at hgr
    exact ⟨_, _, hr, hgr.1, hgr.2, .inr rfl⟩
  · by_cases hroom : n + m ≤ cap
    · have hfit : n * i.size + (Builtin.zeroCells z.cells m).toList.length ≤ cur.size := by rw [hnl, hcs, ← Nat.add_mul]; exact Nat.mul_le_mul_right _ hroom
      have hst := run_storeCells_at P g (n * i.size) e (Builtin.zeroCells z.cells m).toList 0 cur w hg (by simpa using hfit) h1
      simp only [Nat.add_zero] at hst
      have hr : (Builtin.append_ #[t, it] ty #[.slice (some ⟨g, 0, none⟩) n cap, .int .i64 m]).run P w =
          .ok (.slice (some ⟨g, 0, none⟩) (n + m) cap) (w.setRow g (cur.toList.take (n * i.size) ++ (Builtin.zeroCells z.cells m).toList ++ cur.toList.drop (n * i.size + (Builtin.zeroCells z.cells m).toList.length)).toArray) := by
        simp [Builtin.append_, run_underlying ht, run_underlying hit, sizeOf, typeInfo, zeroValue, hi, hz, asInt, asIntOf, hwm, hmz, hmb, hroom, Addr.add_lit, hst]
        exact fun h => absurd h hms
      refine ⟨_, _, hr, ⟨hlen, .inr ⟨g, cap, _, rfl, hbg, setRow_heap w g cur _ e _ hg, hroom, hcm, ?_, ?_⟩⟩, ⟨rfl, rfl, rfl, by simp, fun k _ hk => setRow_other w g k _ (fun e => hk (by simp [Value.ownBlock, e]))⟩, Or.inl rfl⟩
      · simp only [List.size_toArray, List.length_append, List.length_take, List.length_drop, Array.length_toList]
        simp only [Array.length_toList] at hfit
        omega
      · rw [htake, ← hlen]
        exact List.take_left
    · have holds : ∀ j u, xs[j]? = some u → w.cell? ((⟨g, 0, none⟩ : Addr).add j) = some u := hown.cells (g := g) rfl
      have hfo := run_firstCells_some (P := P) w.drew i.size n ⟨g, 0, none⟩ n cap xs hown.1 (by simpa using holds)
      have h48 : ¬ (281474976710656 < Builtin.nextslicecap (n + m) cap * i.bytes) := by
        have := growslice_fits (show cap < n + m by omega) hbytes
        omega
      have h63' : ¬ (9223372036854775807 < ((n : Int) + (m : Int))) := by omega
      have hr : (Builtin.append_ #[t, it] ty #[.slice (some ⟨g, 0, none⟩) n cap, .int .i64 m]).run P w = .ok (.slice (some ⟨w.heap.size, 0, none⟩) (n + m) (grownCap w (n + m) cap e))
          (w.drew.alloc (.cells (xs.toArray ++ Builtin.zeroCells z.cells m ++ Builtin.zeroCells z.cells (grownCap w (n + m) cap e - (n + m))) e)) := by
        simp [Builtin.append_, run_underlying ht, run_underlying hit, sizeOf, typeInfo, zeroValue, hi, hz, asInt, asIntOf, hwm, hmz, hmb, hroom, h48, h63', Question.forced, hfo, newRow, grownCap]
        exact fun h => absurd h hms
      have hgr := grown cap (by omega) (Value.ownBlock (.slice (some ⟨g, 0, none⟩) n cap))
      exact ⟨_, _, hr, hgr.1, hgr.2, Or.inr rfl⟩

/-- append of m made zeros; the old slice is named no more. -/
def AppZ (s : St) (d : Option Tmp) (o n m : Nat) (ob : Ob) (zs : List CV) : St :=
  St.put { env := s.env, heap := (s.nx, { ob with cells := ob.cells ++ czeros zs m }) :: dele s.heap o, nx := s.nx + 1 } d (.osl s.nx 0 (n + m))
def AppZS (s : St) (d : Option Tmp) (o n m : Nat) (ob : Ob) (zs : List CV) (s' : St) : Prop := s' = AppZ s d o n m ob zs
theorem appZ_ok (ht : TabOk P tab) {o : Oper} {cl : Call} {t it e : TypeId} {x y : Operand} {p n m : Nat} {ob : Ob} {ie ii : TI} {zs : List CV} (hd : dstOk C.nt o.dst = true) (ho : o.op = .call cl) (hcl : cl.callee = .builtin .append) (hargs : cl.args = #[x, y]) (hts : cl.argTypes = #[t, it])
    (h1 : tdAt tab t = some (.sl e)) (h2 : assoc tab e = some ie) (hi1 : assoc tab it = some ii) (hi2 : ii.d = .int .i64) (h3 : ev s x = some (.osl p 0 n)) (h4 : ev s y = some (.int .i64 m)) (h6 : assoc s.heap p = some ob)
    (b1 : 0 < ie.size) (b2 : 0 < ie.bytes) (b4 : ob.elem = e) (b5 : ob.sz = ie.size) (b6 : n * ie.size = ob.cells.length) (b7 : (n + m) * ie.bytes ≤ 140737488355328) (b8 : 0 < m) (b11 : ie.zero = zs) :
    ∀ a w, Rel C s a w → ∃ z w' s', (execOp a.eval o).run P w = .ok (.value z) w' ∧ AppZS s o.dst p n m ob zs s' ∧ Rel C s' (a.put o.dst z) w' := by
  rintro a w ⟨σ, h⟩
  subst b4
  subst b11
  have hd' : ∀ t, o.dst = some t → t < a.tmps.size := fun t e => by
    rw [h.tm]
    rw [e] at hd
    simpa [dstOk] using hd
  obtain ⟨itt, hit, hd1⟩ := Option.map_eq_some_iff.1 h1
  obtain ⟨f, z, g1, g2, g3, g4, g5⟩ := (ht ob.elem ie h2).info
  obtain ⟨k1, k2⟩ := constCVs_ok (w := w) (F := FB C σ s.heap) _ _ g5
  have hzl : z.cells.size = ie.zero.length := by simpa using VRts.length _ _ k1
  have hzs : z.cells.size = ie.size := by rw [hzl, (ht ob.elem ie h2).len]
  have hu := und_sl (ht t itt hit) hd1
  have hui : P.underlying it = some (.int .i64) := by
    obtain ⟨d, q1, q2⟩ := (ht it ii hi1).und
    rw [hi2] at q2
    cases d <;> simp only [tdOf] at q2 <;> first | cases q2 | skip
    exact q1
  have hx := ev_ok h h3
  have hy := ev_ok h h4
  simp only [VR] at hx hy
  have hrun : ∀ {v' w'}, (Builtin.append_ #[t, it] o.type #[a.eval x, a.eval y]).run P w = .ok v' w' → (execOp a.eval o).run P w = .ok (.value v') w' := fun {v' w'} hr => by
    simp [execOp, ho, resolve, hcl, hargs, hts, invoke, builtin, hr]
  have hm : n + m ≤ maxLen := by
    have : n + m ≤ (n + m) * ie.bytes := Nat.le_mul_of_pos_right _ b2
    simp only [maxLen]; omega
  have hzz : Builtin.zeroCells z.cells m = madeCells z.cells (m * z.cells.size) := rfl
  have hz1 : VRs w (FB C σ s.heap) σ (czeros ie.zero m) (Builtin.zeroCells z.cells m).toList := by
    rw [hzz]; exact zeros_ok (VRs.of_tree _ _ k1) m
  have hz2 := zeros_one k2 m
  have uo := VRs.one_cells _ _ hz2 hz1
  have ul := VRs.length _ _ hz1
  obtain ⟨B, hB, hx⟩ := hx
  obtain ⟨B0, e1, e2, e3, e4, e5⟩ := h.obj p ob h6
  rw [hB] at e1; cases e1
  have hown : ∃ xs, w.ownsRow 0 ob.elem ie.size (a.eval x) n xs ∧ VRs w (FB C σ s.heap) σ ob.cells xs ∧ (a.eval x).ownBlock = B.blk := by
    split at hx
    · rename_i hn
      obtain ⟨e, _, rfl⟩ := hx
      rw [e, e3 hn, hn]
      exact ⟨[], World.ownsRow_nil w 0 _ _, by simp [VRs], rfl⟩
    · rename_i b hbb
      obtain ⟨cap, e, c1, c2, c3, c4⟩ := hx
      obtain ⟨cur, n1, n2, n3, n4, n5, n6⟩ := e5 b hbb
      rw [e, hbb]
      have hcr := c4 trivial
      refine ⟨cur.toList.take ob.cells.length, ⟨?_, .inr ⟨b, cap, cur, rfl, Nat.zero_le _, n1, c1, c2, ?_, by rw [b6]⟩⟩, n6, rfl⟩
      · rw [List.length_take, b6]; simp; omega
      · rw [n2, ← hcr, e2, b5]
  obtain ⟨xs, x1, x2, x3⟩ := hown
  have xl := VRs.length _ _ x2
  obtain ⟨v', w', r1, r2, r3, r4⟩ := run_append_zeros (P := P) t it o.type ob.elem f z ie.size ie.bytes hu hui g1 g4 g2 g3 hzs b1 _ n xs x1 m b8 hm b7 b2 uo
  rw [x3] at r3 r4
  rw [← hy] at r1
  obtain ⟨B', b1', b2', b3', b4'⟩ := owned_place r2
  have hfr := h.grow (B' := B') h6 hB r3 (by rw [b1', b5]) (cs' := ob.cells ++ czeros ie.zero m) (fun g hg => by
      rw [b2'] at hg
      rcases r4 with r4 | r4 <;> rw [r4] at hg
      · exact .inl hg
      · exact .inr (by simpa using hg.symm)) (by rw [List.all_append, e4, hz2]; rfl) (fun hn => by
      have := (b3' hn).2.2
      obtain ⟨y1, y2⟩ := List.append_eq_nil_iff.1 this
      rw [y1] at xl; rw [y2] at ul
      rw [List.eq_nil_of_length_eq_zero xl.symm, List.eq_nil_of_length_eq_zero ul.symm]; rfl) fun b hb' => by
      obtain ⟨cap, cur, e1, e2, e3, e4, e5, e6, e7⟩ := b4' b hb'
      have hlen : (ob.cells ++ czeros ie.zero m).length = (xs ++ (Builtin.zeroCells z.cells m).toList).length := by rw [List.length_append, List.length_append, xl, ul]
      refine ⟨cur, e2, e5, ?_, ?_⟩
      · rw [e5, ← e6, List.length_append, ← b6, czeros_length, (ht ob.elem ie h2).len, ← Nat.add_mul]
        exact Nat.mul_le_mul_right _ e3
      · rw [hlen, e7]
        exact VRs.append _ _ _ _ x2 hz1
  refine ⟨v', w', _, hrun r1, rfl, _, hfr.put hd' ?_⟩
  simp only [VR]
  refine ⟨B', sig_same, ?_⟩
  split
  · rename_i hn
    obtain ⟨e1, e2, _⟩ := b3' hn
    exact ⟨e1, trivial, e2⟩
  · rename_i b hb'
    obtain ⟨cap, cur, e1, e2, e3, e4, e5, e6, e7⟩ := b4' b hb'
    refine ⟨cap, e1, e3, e4, ?_, fun _ => ?_⟩ <;> rw [b1'] <;> omega
end
end Go.Can
