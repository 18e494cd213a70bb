/- Canonical values and their relation to the model's values and memory. No function of the program is mentioned here. -/
import Derived.StillTail
import Derived.ScopeJumps
import Derived.Laws.AppendOwn
import Derived.Laws.CopyOwn
import Derived.Laws.MakeOwn
import Derived.Laws.OwnMore
import Derived.Below
import Derived.IntWalk
namespace Go.Can
open Go.RowKit

/-- Canonical values. 'tsl', 'tptr': immutable memory, its cells written out from the address on. 'osl', 'optr': into an object of one's own, by its number. 'any': one cell of which nothing is known. -/
inductive CV where
  | int (k : IntKind) (n : Int)
  | bool (b : Bool)
  | str (s : ByteArray)
  | agg (cs : List CV)
  | tsl (cs : List CV) (n : Nat)
  | nilsl
  | tptr (cs : List CV)
  | nilptr
  | fn (f : FuncId) (caps : List CV)
  | nilfn
  | iface (t : TypeId) (cs : List CV)
  | iter (k : Nat) (s : ByteArray) (p : Nat)
  | mp (k : Nat) (es : List (Value × Value))
  | tup (vs : List CV)
  | osl (o off n : Nat)
  | optr (o off : Nat)
  | any

instance : Inhabited CV := ⟨.nilptr⟩

/-- A value of one cell. -/
def one : CV → Bool
  | .agg _ => false
  | .tup _ => false
  | .iter _ _ _ => false
  | .mp _ _ => false
  | _ => true
def CV.cells : CV → List CV
  | .agg cs => cs
  | c => [c]

mutual
/-- The immutable ones: the value v reads as c; no cell of it lies in a block of F. -/
def VRt (w : World) (F : Nat → Prop) : CV → Value → Prop
  | .int k n, v => v = .int k n
  | .bool b, v => v = .bool b
  | .str s, v => v = .string s
  | .agg cs, v => ∃ vs : List Value, v = .agg vs.toArray ∧ VRts w F cs vs ∧ cs.all one = true
  | .tsl cs n, v => ∃ A cap, v = .slice A n cap ∧ n ≤ cap ∧ cap ≤ maxLen ∧ ((n = 0 ∧ cs = []) ∨ ∃ ad, A = some ad ∧ MRt w F cs ad)
  | .nilsl, v => v = .slice none 0 0
  | .tptr cs, v => ∃ ad, v = .pointer (some ad) ∧ MRt w F cs ad
  | .nilptr, v => v = .pointer none
  | .fn f caps, v => ∃ vs : List Value, v = .func (.func f) #[] vs.toArray ∧ VRts w F caps vs
  | .iface f caps, v => ∃ vs : List Value, v = .iface f (vs.headD (.tuple #[])) ∧ VRts w F caps vs
  | .nilfn, v => v = .nilFunc
  | .iter _ _ _, _ => False
  | .mp _ _, _ => False
  | .tup cs, v => ∃ vs : List Value, v = .tuple vs.toArray ∧ VRts w F cs vs
  | .osl _ _ _, _ => False
  | .optr _ _, _ => False
  | .any, v => v.oneCell' = true
def VRts (w : World) (F : Nat → Prop) : List CV → List Value → Prop
  | [], vs => vs = []
  | c :: cs, vs => ∃ v r, vs = v :: r ∧ VRt w F c v ∧ VRts w F cs r
/-- The cells from an address on. -/
def MRt (w : World) (F : Nat → Prop) : List CV → Addr → Prop
  | [], _ => True
  | c :: cs, ad => (∃ u, w.cell? ad = some u ∧ ¬ F ad.block ∧ VRt w F c u) ∧ one c = true ∧ MRt w F cs (ad.add 1)
end

theorem add_block (a : Addr) (n : Nat) : (a.add n).block = a.block := by unfold Addr.add; split <;> rfl
theorem add_add (a : Addr) (i j : Nat) : (a.add i).add j = a.add (i + j) := by
  unfold Addr.add
  by_cases hi : i = 0 <;> by_cases hj : j = 0 <;> simp [hi, hj, Nat.add_assoc]
theorem add_zero (a : Addr) : a.add 0 = a := by simp [Addr.add]
theorem add_lit (b i j : Nat) : (⟨b, i, none⟩ : Addr).add j = ⟨b, i + j, none⟩ := by
  unfold Addr.add; split <;> simp_all

/-- What is kept of readings when the world turns: the cells outside F stay, and none of them comes under F'. -/
def KeepsC (w w' : World) (F F' : Nat → Prop) : Prop := ∀ ad u, ¬ F ad.block → w.cell? ad = some u → w'.cell? ad = some u ∧ ¬ F' ad.block
/-- The same, and the iterators over strings. -/
def Keeps (w w' : World) (F F' : Nat → Prop) : Prop := KeepsC w w' F F' ∧
  ∀ r x, ¬ F r → w.heap[r]? = some x → (∀ c e f, x ≠ .cells c e f) → w'.heap[r]? = some x ∧ ¬ F' r

theorem Keeps.same {w : World} {F F' : Nat → Prop} (h : ∀ b, F' b → F b) : Keeps w w F F' := ⟨fun _ _ hf hu => ⟨hu, fun k => hf (h _ k)⟩, fun _ _ hf hu _ => ⟨hu, fun k => hf (h _ k)⟩⟩

mutual
theorem VRt.keep {w w' : World} {F F' : Nat → Prop} (h : KeepsC w w' F F') : ∀ (c : CV) (v : Value), VRt w F c v → VRt w' F' c v
  | .int _ _, _, hv => by simpa [VRt] using hv
  | .bool _, _, hv => by simpa [VRt] using hv
  | .str _, _, hv => by simpa [VRt] using hv
  | .agg cs, v, hv => by
    simp only [VRt] at hv ⊢
    obtain ⟨vs, e, r, h1⟩ := hv
    exact ⟨vs, e, VRts.keep h cs vs r, h1⟩
  | .nilsl, _, hv => by simpa [VRt] using hv
  | .tsl cs n, v, hv => by
    simp only [VRt] at hv ⊢
    obtain ⟨A, cap, e, h1, h2, h4⟩ := hv
    refine ⟨A, cap, e, h1, h2, ?_⟩
    rcases h4 with h4 | ⟨ad, ea, hm⟩
    · exact .inl h4
    · exact .inr ⟨ad, ea, MRt.keep h cs ad hm⟩
  | .tptr cs, v, hv => by
    simp only [VRt] at hv ⊢
    obtain ⟨ad, e, hm⟩ := hv
    exact ⟨ad, e, MRt.keep h cs ad hm⟩
  | .nilptr, _, hv => by simpa [VRt] using hv
  | .fn f caps, v, hv => by
    simp only [VRt] at hv ⊢
    obtain ⟨vs, e, r⟩ := hv
    exact ⟨vs, e, VRts.keep h caps vs r⟩
  | .iface f caps, v, hv => by
    simp only [VRt] at hv ⊢
    obtain ⟨vs, e, r⟩ := hv
    exact ⟨vs, e, VRts.keep h caps vs r⟩
  | .nilfn, _, hv => by simpa [VRt] using hv
  | .iter _ _ _, _, hv => by simp [VRt] at hv
  | .mp _ _, _, hv => by simp [VRt] at hv
  | .tup cs, v, hv => by
    simp only [VRt] at hv ⊢
    obtain ⟨vs, e, r⟩ := hv
    exact ⟨vs, e, VRts.keep h cs vs r⟩
  | .osl _ _ _, _, hv => by simp [VRt] at hv
  | .optr _ _, _, hv => by simp [VRt] at hv
  | .any, _, hv => by simpa [VRt] using hv
theorem VRts.keep {w w' : World} {F F' : Nat → Prop} (h : KeepsC w w' F F') : ∀ (cs : List CV) (vs : List Value), VRts w F cs vs → VRts w' F' cs vs
  | [], _, hv => by simpa [VRts] using hv
  | c :: cs, vs, hv => by
    simp only [VRts] at hv ⊢
    obtain ⟨v, r, e, h1, h2⟩ := hv
    exact ⟨v, r, e, VRt.keep h c v h1, VRts.keep h cs r h2⟩
theorem MRt.keep {w w' : World} {F F' : Nat → Prop} (h : KeepsC w w' F F') : ∀ (cs : List CV) (ad : Addr), MRt w F cs ad → MRt w' F' cs ad
  | [], _, _ => by simp [MRt]
  | c :: cs, ad, hv => by
    simp only [MRt] at hv ⊢
    obtain ⟨⟨u, h1, h2, h3⟩, ho, h4⟩ := hv
    obtain ⟨k1, k2⟩ := h ad u h2 h1
    exact ⟨⟨u, k1, k2, VRt.keep h c u h3⟩, ho, MRt.keep h cs _ h4⟩
end

theorem MRt.drop {w : World} {F : Nat → Prop} : ∀ (k : Nat) (cs : List CV) (ad : Addr), MRt w F cs ad → MRt w F (cs.drop k) (ad.add k)
  | 0, cs, ad, h => by simpa [add_zero] using h
  | k + 1, [], ad, _ => by simp [MRt]
  | k + 1, c :: cs, ad, h => by
    simp only [MRt] at h
    have := MRt.drop k cs _ h.2.2
    rw [add_add] at this
    simpa [Nat.add_comm] using this

theorem MRt.take {w : World} {F : Nat → Prop} : ∀ (k : Nat) (cs : List CV) (ad : Addr), MRt w F cs ad → MRt w F (cs.take k) ad
  | 0, _, _, _ => by simp [MRt]
  | k + 1, [], _, _ => by simp [MRt]
  | k + 1, c :: cs, ad, h => by
    simp only [MRt] at h
    simp only [List.take_succ_cons, MRt]
    exact ⟨h.1, h.2.1, MRt.take k cs _ h.2.2⟩

/-- The cells, as a list of the memory's own values. -/
theorem MRt.cells {w : World} {F : Nat → Prop} : ∀ (cs : List CV) (ad : Addr), MRt w F cs ad → ∃ us : List Value, VRts w F cs us ∧ us.length = cs.length ∧ ∀ j u, us[j]? = some u → w.cell? (ad.add j) = some u
  | [], ad, _ => ⟨[], by simp [VRts], rfl, by simp⟩
  | c :: cs, ad, h => by
    simp only [MRt] at h
    obtain ⟨⟨u, h1, h2, h3⟩, _, h4⟩ := h
    obtain ⟨us, k1, k2, k3⟩ := MRt.cells cs _ h4
    refine ⟨u :: us, by simp only [VRts]; exact ⟨u, us, rfl, h3, k1⟩, by simp [k2], ?_⟩
    intro j x hx
    cases j with
    | zero => simp at hx; subst hx; rw [add_zero]; exact h1
    | succ j =>
      have := k3 j x (by simpa using hx)
      rw [add_add] at this
      rwa [Nat.add_comm] at this

theorem VRts.length {w : World} {F : Nat → Prop} : ∀ (cs : List CV) (vs : List Value), VRts w F cs vs → vs.length = cs.length
  | [], vs, h => by simp only [VRts] at h; subst h; rfl
  | c :: cs, vs, h => by
    simp only [VRts] at h
    obtain ⟨v, r, rfl, _, h2⟩ := h
    simp [VRts.length cs r h2]

theorem VRts.get {w : World} {F : Nat → Prop} : ∀ (cs : List CV) (vs : List Value), VRts w F cs vs → ∀ (i : Nat) (c : CV), cs[i]? = some c → ∃ v, vs[i]? = some v ∧ VRt w F c v
  | [], vs, _, i, c, hi => by simp at hi
  | c :: cs, vs, h, i, d, hi => by
    simp only [VRts] at h
    obtain ⟨v, r, rfl, h1, h2⟩ := h
    cases i with
    | zero => simp at hi; subst hi; exact ⟨v, rfl, h1⟩
    | succ i => simpa using VRts.get cs r h2 i d (by simpa using hi)

/-- What is known of an object's place: its block (none: a slice that is nil or has no room), how many cells the block has, the size of an element. -/
structure OB where
  blk : Option Nat
  room : Nat
  sz : Nat

mutual
/-- The values of a frame and of the objects' cells. -/
def VR (w : World) (F : Nat → Prop) (σ : Nat → Option OB) : CV → Value → Prop
  | .osl o off n, v => ∃ B, σ o = some B ∧ match B.blk with
      | none => v = .slice none 0 0 ∧ off = 0 ∧ n = 0
      | some b => ∃ cap, v = .slice (some ⟨b, off, none⟩) n cap ∧ n ≤ cap ∧ cap ≤ maxLen ∧ off + cap * B.sz ≤ B.room ∧ (off = 0 → cap * B.sz = B.room)
  | .optr o off, v => ∃ B b, σ o = some B ∧ B.blk = some b ∧ v = .pointer (some ⟨b, off, none⟩)
  | .agg cs, v => ∃ vs : List Value, v = .agg vs.toArray ∧ VRs w F σ cs vs ∧ cs.all one = true
  | .fn f caps, v => ∃ vs : List Value, v = .func (.func f) #[] vs.toArray ∧ VRs w F σ caps vs
  | .iface f caps, v => ∃ vs : List Value, v = .iface f (vs.headD (.tuple #[])) ∧ VRs w F σ caps vs
  | .tup cs, v => ∃ vs : List Value, v = .tuple vs.toArray ∧ VRs w F σ cs vs
  | .int k n, v => v = .int k n
  | .bool b, v => v = .bool b
  | .str s, v => v = .string s
  | .tsl cs n, v => VRt w F (.tsl cs n) v
  | .nilsl, v => v = .slice none 0 0
  | .tptr cs, v => VRt w F (.tptr cs) v
  | .nilptr, v => v = .pointer none
  | .nilfn, v => v = .nilFunc
  | .iter k s p, v => ∃ B r, σ k = some B ∧ B.blk = some r ∧ v = .pointer (some ⟨r, 0, none⟩) ∧ w.heap[r]? = some (.stringIter s p) ∧ ¬ F r
  | .mp k es, v => ∃ B r arr clock, σ k = some B ∧ B.blk = some r ∧ v = .map (some r) ∧ w.heap[r]? = some (.map arr clock) ∧ arr.toList.map (fun e => (e.key, e.val)) = es ∧ (es.map (·.1)).Nodup ∧ ¬ F r
  | .any, v => v.oneCell' = true
def VRs (w : World) (F : Nat → Prop) (σ : Nat → Option OB) : List CV → List Value → Prop
  | [], vs => vs = []
  | c :: cs, vs => ∃ v r, vs = v :: r ∧ VR w F σ c v ∧ VRs w F σ cs r
end

mutual
/-- No object of one's own in it, on the surface. -/
def tree : CV → Bool
  | .osl _ _ _ => false
  | .optr _ _ => false
  | .iter _ _ _ => false
  | .mp _ _ => false
  | .agg cs => trees cs
  | .fn _ cs => trees cs
  | .iface _ cs => trees cs
  | .tup cs => trees cs
  | _ => true
def trees : List CV → Bool
  | [] => true
  | c :: cs => tree c && trees cs
end

mutual
theorem VR.of_tree {w : World} {F : Nat → Prop} {σ : Nat → Option OB} : ∀ (c : CV) (v : Value), VRt w F c v → VR w F σ c v
  | .int _ _, _, h => by simpa [VR, VRt] using h
  | .bool _, _, h => by simpa [VR, VRt] using h
  | .str _, _, h => by simpa [VR, VRt] using h
  | .agg cs, v, h => by
    simp only [VR, VRt] at h ⊢
    obtain ⟨vs, e, r, h1⟩ := h
    exact ⟨vs, e, VRs.of_tree cs vs r, h1⟩
  | .nilsl, _, h => by simpa [VR, VRt] using h
  | .tsl _ _, _, h => by simpa only [VR] using h
  | .tptr _, _, h => by simpa only [VR] using h
  | .nilptr, _, h => by simpa [VR, VRt] using h
  | .fn _ cs, v, h => by
    simp only [VR, VRt] at h ⊢
    obtain ⟨vs, e, r⟩ := h
    exact ⟨vs, e, VRs.of_tree cs vs r⟩
  | .iface _ cs, v, h => by
    simp only [VR, VRt] at h ⊢
    obtain ⟨vs, e, r⟩ := h
    exact ⟨vs, e, VRs.of_tree cs vs r⟩
  | .nilfn, _, h => by simpa [VR, VRt] using h
  | .iter _ _ _, _, h => by simp [VRt] at h
  | .mp _ _, _, h => by simp [VRt] at h
  | .tup cs, v, h => by
    simp only [VR, VRt] at h ⊢
    obtain ⟨vs, e, r⟩ := h
    exact ⟨vs, e, VRs.of_tree cs vs r⟩
  | .osl _ _ _, _, h => by simp [VRt] at h
  | .optr _ _, _, h => by simp [VRt] at h
  | .any, _, h => by simpa [VR, VRt] using h
theorem VRs.of_tree {w : World} {F : Nat → Prop} {σ : Nat → Option OB} : ∀ (cs : List CV) (vs : List Value), VRts w F cs vs → VRs w F σ cs vs
  | [], _, h => by simpa [VRs, VRts] using h
  | c :: cs, vs, h => by
    simp only [VRs, VRts] at h ⊢
    obtain ⟨v, r, e, h1, h2⟩ := h
    exact ⟨v, r, e, VR.of_tree c v h1, VRs.of_tree cs r h2⟩
end

mutual
theorem VR.to_tree {w : World} {F : Nat → Prop} {σ : Nat → Option OB} : ∀ (c : CV) (v : Value), tree c = true → VR w F σ c v → VRt w F c v
  | .int _ _, _, _, h => by simpa [VR, VRt] using h
  | .bool _, _, _, h => by simpa [VR, VRt] using h
  | .str _, _, _, h => by simpa [VR, VRt] using h
  | .agg cs, v, ht, h => by
    simp only [VR, VRt, tree] at h ht ⊢
    obtain ⟨vs, e, r, h1⟩ := h
    exact ⟨vs, e, VRs.to_tree cs vs ht r, h1⟩
  | .nilsl, _, _, h => by simpa [VR, VRt] using h
  | .tsl _ _, _, _, h => by simpa only [VR] using h
  | .tptr _, _, _, h => by simpa only [VR] using h
  | .nilptr, _, _, h => by simpa [VR, VRt] using h
  | .fn _ cs, v, ht, h => by
    simp only [VR, VRt, tree] at h ht ⊢
    obtain ⟨vs, e, r⟩ := h
    exact ⟨vs, e, VRs.to_tree cs vs ht r⟩
  | .iface _ cs, v, ht, h => by
    simp only [VR, VRt, tree] at h ht ⊢
    obtain ⟨vs, e, r⟩ := h
    exact ⟨vs, e, VRs.to_tree cs vs ht r⟩
  | .nilfn, _, _, h => by simpa [VR, VRt] using h
  | .iter _ _ _, _, ht, _ => by simp [tree] at ht
  | .mp _ _, _, ht, _ => by simp [tree] at ht
  | .tup cs, v, ht, h => by
    simp only [VR, VRt, tree] at h ht ⊢
    obtain ⟨vs, e, r⟩ := h
    exact ⟨vs, e, VRs.to_tree cs vs ht r⟩
  | .osl _ _ _, _, ht, _ => by simp [tree] at ht
  | .optr _ _, _, ht, _ => by simp [tree] at ht
  | .any, _, _, h => by simpa [VR, VRt] using h
theorem VRs.to_tree {w : World} {F : Nat → Prop} {σ : Nat → Option OB} : ∀ (cs : List CV) (vs : List Value), trees cs = true → VRs w F σ cs vs → VRts w F cs vs
  | [], _, _, h => by simpa [VRs, VRts] using h
  | c :: cs, vs, ht, h => by
    simp only [VRs, VRts, trees, Bool.and_eq_true] at h ht ⊢
    obtain ⟨v, r, e, h1, h2⟩ := h
    exact ⟨v, r, e, VR.to_tree c v ht.1 h1, VRs.to_tree cs r ht.2 h2⟩
end

mutual
/-- The value names the object o. -/
def noRef (o : Nat) : CV → Bool
  | .osl p _ _ => p != o
  | .optr p _ => p != o
  | .iter p _ _ => p != o
  | .mp p _ => p != o
  | .agg cs => noRefs o cs
  | .fn _ cs => noRefs o cs
  | .iface _ cs => noRefs o cs
  | .tup cs => noRefs o cs
  | _ => true
def noRefs (o : Nat) : List CV → Bool
  | [] => true
  | c :: cs => noRef o c && noRefs o cs
end

mutual
/-- A reading is kept when the world turns as 'Keeps' says and the places of all objects that it names stay. -/
theorem VR.keep {w w' : World} {F F' : Nat → Prop} {σ σ' : Nat → Option OB} (h : Keeps w w' F F') : ∀ (c : CV) (v : Value), (∀ o, noRef o c = false → σ' o = σ o) → VR w F σ c v → VR w' F' σ' c v
  | .int _ _, _, _, hv => by simpa [VR] using hv
  | .bool _, _, _, hv => by simpa [VR] using hv
  | .str _, _, _, hv => by simpa [VR] using hv
  | .agg cs, v, hr, hv => by
    simp only [VR] at hv ⊢
    obtain ⟨vs, e, r, h1⟩ := hv
    exact ⟨vs, e, VRs.keep h cs vs (fun o ho => hr o (by simpa [noRef] using ho)) r, h1⟩
  | .nilsl, _, _, hv => by simpa [VR] using hv
  | .tsl _ _, _, _, hv => by simp only [VR] at hv ⊢; exact VRt.keep h.1 _ _ hv
  | .tptr _, _, _, hv => by simp only [VR] at hv ⊢; exact VRt.keep h.1 _ _ hv
  | .nilptr, _, _, hv => by simpa [VR] using hv
  | .fn _ cs, v, hr, hv => by
    simp only [VR] at hv ⊢
    obtain ⟨vs, e, r⟩ := hv
    exact ⟨vs, e, VRs.keep h cs vs (fun o ho => hr o (by simpa [noRef] using ho)) r⟩
  | .iface _ cs, v, hr, hv => by
    simp only [VR] at hv ⊢
    obtain ⟨vs, e, r⟩ := hv
    exact ⟨vs, e, VRs.keep h cs vs (fun o ho => hr o (by simpa [noRef] using ho)) r⟩
  | .nilfn, _, _, hv => by simpa [VR] using hv
  | .iter k s p, v, hr, hv => by
    have hs := hr k (by simp [noRef])
    simp only [VR] at hv ⊢
    obtain ⟨B, r, e1, e2, e3, h1, h2⟩ := hv
    obtain ⟨k1, k2⟩ := h.2 r _ h2 h1 (fun _ _ _ he => by cases he)
    exact ⟨B, r, hs.trans e1, e2, e3, k1, k2⟩
  | .mp k es, v, hr, hv => by
    have hs := hr k (by simp [noRef])
    simp only [VR] at hv ⊢
    obtain ⟨B, r, arr, clock, e1, e2, e3, h1, h3, h4, h2⟩ := hv
    obtain ⟨k1, k2⟩ := h.2 r _ h2 h1 (fun _ _ _ he => by cases he)
    exact ⟨B, r, arr, clock, hs.trans e1, e2, e3, k1, h3, h4, k2⟩
  | .tup cs, v, hr, hv => by
    simp only [VR] at hv ⊢
    obtain ⟨vs, e, r⟩ := hv
    exact ⟨vs, e, VRs.keep h cs vs (fun o ho => hr o (by simpa [noRef] using ho)) r⟩
  | .osl o off n, v, hr, hv => by
    have := hr o (by simp [noRef])
    simp only [VR] at hv ⊢
    rw [this]; exact hv
  | .optr o off, v, hr, hv => by
    have := hr o (by simp [noRef])
    simp only [VR] at hv ⊢
    rw [this]; exact hv
  | .any, _, _, hv => by simpa [VR] using hv
theorem VRs.keep {w w' : World} {F F' : Nat → Prop} {σ σ' : Nat → Option OB} (h : Keeps w w' F F') : ∀ (cs : List CV) (vs : List Value), (∀ o, noRefs o cs = false → σ' o = σ o) → VRs w F σ cs vs → VRs w' F' σ' cs vs
  | [], _, _, hv => by simpa [VRs] using hv
  | c :: cs, vs, hr, hv => by
    simp only [VRs] at hv ⊢
    obtain ⟨v, r, e, h1, h2⟩ := hv
    exact ⟨v, r, e, VR.keep h c v (fun o ho => hr o (by simp [noRefs, ho])) h1, VRs.keep h cs r (fun o ho => hr o (by simp [noRefs, ho])) h2⟩
end

mutual
/-- No iterator in it, on the surface. -/
def noIter : CV → Bool
  | .iter _ _ _ => false
  | .mp _ _ => false
  | .agg cs => noIters cs
  | .fn _ cs => noIters cs
  | .iface _ cs => noIters cs
  | .tup cs => noIters cs
  | _ => true
def noIters : List CV → Bool
  | [] => true
  | c :: cs => noIter c && noIters cs
end
mutual
/-- A reading without iterators is kept when the cells are. -/
theorem VR.keepN {w w' : World} {F F' : Nat → Prop} {σ : Nat → Option OB} (h : KeepsC w w' F F') : ∀ (c : CV) (v : Value), noIter c = true → VR w F σ c v → VR w' F' σ c v
  | .int _ _, _, _, hv => by simpa [VR] using hv
  | .bool _, _, _, hv => by simpa [VR] using hv
  | .str _, _, _, hv => by simpa [VR] using hv
  | .nilsl, _, _, hv => by simpa [VR] using hv
  | .tsl _ _, _, _, hv => by simp only [VR] at hv ⊢; exact VRt.keep h _ _ hv
  | .tptr _, _, _, hv => by simp only [VR] at hv ⊢; exact VRt.keep h _ _ hv
  | .nilptr, _, _, hv => by simpa [VR] using hv
  | .nilfn, _, _, hv => by simpa [VR] using hv
  | .any, _, _, hv => by simpa [VR] using hv
  | .osl _ _ _, _, _, hv => by simpa only [VR] using hv
  | .optr _ _, _, _, hv => by simpa only [VR] using hv
  | .iter _ _ _, _, hn, _ => by simp [noIter] at hn
  | .mp _ _, _, hn, _ => by simp [noIter] at hn
  | .agg cs, v, hn, hv => by
    simp only [VR] at hv ⊢
    obtain ⟨vs, e, r, h1⟩ := hv
    exact ⟨vs, e, VRs.keepN h cs vs (by simpa [noIter] using hn) r, h1⟩
  | .fn _ cs, v, hn, hv => by
    simp only [VR] at hv ⊢
    obtain ⟨vs, e, r⟩ := hv
    exact ⟨vs, e, VRs.keepN h cs vs (by simpa [noIter] using hn) r⟩
  | .iface _ cs, v, hn, hv => by
    simp only [VR] at hv ⊢
    obtain ⟨vs, e, r⟩ := hv
    exact ⟨vs, e, VRs.keepN h cs vs (by simpa [noIter] using hn) r⟩
  | .tup cs, v, hn, hv => by
    simp only [VR] at hv ⊢
    obtain ⟨vs, e, r⟩ := hv
    exact ⟨vs, e, VRs.keepN h cs vs (by simpa [noIter] using hn) r⟩
theorem VRs.keepN {w w' : World} {F F' : Nat → Prop} {σ : Nat → Option OB} (h : KeepsC w w' F F') : ∀ (cs : List CV) (vs : List Value), noIters cs = true → VRs w F σ cs vs → VRs w' F' σ cs vs
  | [], _, _, hv => by simpa [VRs] using hv
  | c :: cs, vs, hn, hv => by
    simp only [noIters, Bool.and_eq_true] at hn
    simp only [VRs] at hv ⊢
    obtain ⟨v, r, e, h1, h2⟩ := hv
    exact ⟨v, r, e, VR.keepN h c v hn.1 h1, VRs.keepN h cs r hn.2 h2⟩
end

theorem VRs.length {w : World} {F : Nat → Prop} {σ : Nat → Option OB} : ∀ (cs : List CV) (vs : List Value), VRs w F σ cs vs → vs.length = cs.length
  | [], vs, h => by simp only [VRs] at h; subst h; rfl
  | c :: cs, vs, h => by
    simp only [VRs] at h
    obtain ⟨v, r, rfl, _, h2⟩ := h
    simp [VRs.length cs r h2]

theorem VRs.get {w : World} {F : Nat → Prop} {σ : Nat → Option OB} : ∀ (cs : List CV) (vs : List Value), VRs w F σ cs vs → ∀ (i : Nat) (c : CV), cs[i]? = some c → ∃ v, vs[i]? = some v ∧ VR w F σ c v
  | [], vs, _, i, c, hi => by simp at hi
  | c :: cs, vs, h, i, d, hi => by
    simp only [VRs] at h
    obtain ⟨v, r, rfl, h1, h2⟩ := h
    cases i with
    | zero => simp at hi; subst hi; exact ⟨v, rfl, h1⟩
    | succ i => simpa using VRs.get cs r h2 i d (by simpa using hi)

theorem VRs.of_get {w : World} {F : Nat → Prop} {σ : Nat → Option OB} : ∀ (cs : List CV) (vs : List Value), vs.length = cs.length → (∀ (i : Nat) (c : CV), cs[i]? = some c → ∃ v, vs[i]? = some v ∧ VR w F σ c v) → VRs w F σ cs vs
  | [], vs, hl, _ => by simp only [VRs]; exact List.eq_nil_of_length_eq_zero hl
  | c :: cs, [], hl, _ => by simp at hl
  | c :: cs, v :: vs, hl, h => by
    simp only [VRs]
    refine ⟨v, vs, rfl, ?_, VRs.of_get cs vs (by simpa using hl) fun i d hi => ?_⟩
    · obtain ⟨u, hu, hr⟩ := h 0 c rfl
      simp at hu; subst hu; exact hr
    · simpa using h (i + 1) d (by simpa using hi)

theorem VRs.take {w : World} {F : Nat → Prop} {σ : Nat → Option OB} (k : Nat) (cs : List CV) (vs : List Value) (h : VRs w F σ cs vs) : VRs w F σ (cs.take k) (vs.take k) := by
  refine VRs.of_get _ _ (by simp [VRs.length cs vs h]) fun i c hi => ?_
  rw [List.getElem?_take] at hi ⊢
  split at hi
  · rename_i hk; rw [if_pos hk]; exact VRs.get cs vs h i c hi
  · cases hi
theorem VRs.drop {w : World} {F : Nat → Prop} {σ : Nat → Option OB} (k : Nat) (cs : List CV) (vs : List Value) (h : VRs w F σ cs vs) : VRs w F σ (cs.drop k) (vs.drop k) := by
  refine VRs.of_get _ _ (by simp [VRs.length cs vs h]) fun i c hi => ?_
  rw [List.getElem?_drop] at hi ⊢
  exact VRs.get cs vs h _ c hi
theorem VRs.append {w : World} {F : Nat → Prop} {σ : Nat → Option OB} : ∀ (cs ds : List CV) (vs us : List Value), VRs w F σ cs vs → VRs w F σ ds us → VRs w F σ (cs ++ ds) (vs ++ us)
  | [], ds, vs, us, h, k => by simp only [VRs] at h; subst h; simpa using k
  | c :: cs, ds, vs, us, h, k => by
    simp only [VRs] at h
    obtain ⟨v, r, rfl, h1, h2⟩ := h
    simp only [List.cons_append, VRs]
    exact ⟨v, r ++ us, rfl, h1, VRs.append cs ds r us h2 k⟩

theorem VR.one_cell {w : World} {F : Nat → Prop} {σ : Nat → Option OB} (c : CV) (v : Value) (h1 : one c = true) (h : VR w F σ c v) : v.oneCell' = true := by
  cases c <;> simp only [VR, VRt, one, Bool.false_eq_true] at h h1
  case tsl => obtain ⟨A, cap, rfl, _⟩ := h; rfl
  case tptr => obtain ⟨ad, rfl, _⟩ := h; rfl
  case fn => obtain ⟨vs, rfl, _⟩ := h; rfl
  case iface => obtain ⟨vs, rfl, _⟩ := h; rfl
  case osl o off n =>
    obtain ⟨B, _, h⟩ := h
    split at h
    · obtain ⟨rfl, _⟩ := h; rfl
    · obtain ⟨cap, rfl, _⟩ := h; rfl
  case optr => obtain ⟨B, b, _, _, rfl⟩ := h; rfl
  case any => exact h
  all_goals (subst h; rfl)

theorem VRs.one_cells {w : World} {F : Nat → Prop} {σ : Nat → Option OB} : ∀ (cs : List CV) (vs : List Value), cs.all one = true → VRs w F σ cs vs → ∀ u ∈ vs, u.oneCell' = true
  | [], vs, _, h => by simp only [VRs] at h; subst h; simp
  | c :: cs, vs, ha, h => by
    simp only [VRs] at h
    obtain ⟨v, r, rfl, h1, h2⟩ := h
    simp only [List.all_cons, Bool.and_eq_true] at ha
    intro u hu
    rcases List.mem_cons.1 hu with rfl | hu
    · exact VR.one_cell c _ ha.1 h1
    · exact VRs.one_cells cs r ha.2 h2 u hu

theorem one_cells_eq {v : Value} (h : v.oneCell' = true) : v.cells = #[v] := by
  cases v <;> simp_all [Value.oneCell', Value.cells]

/-- What a value puts into memory: its cells. -/
theorem VR.flat {w : World} {F : Nat → Prop} {σ : Nat → Option OB} (c : CV) (v : Value) (hc : ∀ cs, c ≠ .tup cs) (hi : ∀ k s p, c ≠ .iter k s p) (hm : ∀ k es, c ≠ .mp k es) (h : VR w F σ c v) : VRs w F σ c.cells v.cells.toList ∧ c.cells.all one = true := by
  by_cases ha : ∃ cs, c = .agg cs
  · obtain ⟨cs, rfl⟩ := ha
    simp only [VR] at h
    obtain ⟨vs, rfl, r, h1⟩ := h
    exact ⟨by simpa [CV.cells, Value.cells] using r, h1⟩
  · have h1 : one c = true := by
      cases c <;> simp_all [one]
    have h2 : c.cells = [c] := by
      cases c <;> simp_all [CV.cells]
    rw [h2, one_cells_eq (VR.one_cell c v h1 h)]
    exact ⟨by simp only [VRs]; exact ⟨v, [], rfl, h, rfl⟩, by simp [h1]⟩

theorem MRt.ones {w : World} {F : Nat → Prop} : ∀ (cs : List CV) (ad : Addr), MRt w F cs ad → cs.all one = true
  | [], _, _ => rfl
  | c :: cs, ad, h => by
    simp only [MRt] at h
    simp [h.2.1, MRt.ones cs _ h.2.2]
end Go.Can

/- Canonical states, their relation to the real frame and world, and the operations that turn nothing in memory. No function of the program is mentioned here. -/
namespace Go.Can
open Go.RowKit

def assoc {α : Type} : List (Nat × α) → Nat → Option α
  | [], _ => none
  | (k, v) :: r, t => if k = t then some v else assoc r t
def dele {α : Type} : List (Nat × α) → Nat → List (Nat × α)
  | [], _ => []
  | (k, v) :: r, t => if k = t then dele r t else (k, v) :: dele r t
def upd {α : Type} : List (Nat × α) → Nat → α → List (Nat × α)
  | [], _, _ => []
  | (k, v) :: r, t, x => if k = t then (k, x) :: r else (k, v) :: upd r t x

theorem assoc_dele {α : Type} (l : List (Nat × α)) (t u : Nat) : assoc (dele l t) u = if t = u then none else assoc l u := by
  induction l with
  | nil => simp [dele, assoc]
  | cons x r ih =>
    obtain ⟨k, v⟩ := x
    simp only [dele]
    split
    · rename_i hk; subst hk; rw [ih]; split
      · rfl
      · rename_i hu; simp [assoc, hu]
    · rename_i hk; simp only [assoc]; split
      · rename_i hu; subst hu; simp [Ne.symm hk]
      · exact ih
theorem assoc_upd {α : Type} (l : List (Nat × α)) (t u : Nat) (x : α) : assoc (upd l t x) u = if t = u then (assoc l t).map fun _ => x else assoc l u := by
  induction l with
  | nil => simp [upd, assoc]
  | cons y r ih =>
    obtain ⟨k, v⟩ := y
    simp only [upd]
    split
    · rename_i hk; subst hk; simp only [assoc, if_true]; split
      · rename_i hu; simp
      · rfl
    · rename_i hk; simp only [assoc, hk, if_false]; rw [ih]; split
      · rename_i hu; subst hu; simp [Ne.symm hk]
      · rfl

structure Ob where
  elem : TypeId
  sz : Nat
  cells : List CV

structure St where
  env : List (Nat × CV)
  heap : List (Nat × Ob)
  nx : Nat

def St.put (s : St) (d : Option Tmp) (c : CV) : St :=
  match d with
  | some t => { s with env := (t, c) :: dele s.env t }
  | none => s
def St.del (s : St) (d : Option Tmp) : St :=
  match d with
  | some t => { s with env := dele s.env t }
  | none => s

/-- What stands around a call: the world in which it began, the blocks that are no one's to read as immutable, the blocks that the call may write; the places of the objects that were there when it began (their numbers lie below n0): they stay. -/
structure Cx where
  w0 : World
  F : Nat → Prop
  own : Nat → Prop
  hF : ∀ b, F b → b < w0.heap.size
  nt : Nat
  σ0 : Nat → Option OB
  n0 : Nat

def blkOf (σ : Nat → Option OB) (o : Nat) : Option Nat := (σ o).bind (·.blk)
def FB (C : Cx) (σ : Nat → Option OB) (H : List (Nat × Ob)) (b : Nat) : Prop := C.F b ∨ ∃ o ob, assoc H o = some ob ∧ blkOf σ o = some b

def ObR (C : Cx) (w : World) (σ : Nat → Option OB) (H : List (Nat × Ob)) (o : Nat) (ob : Ob) : Prop :=
  ∃ B, σ o = some B ∧ B.sz = ob.sz ∧ (B.blk = none → ob.cells = []) ∧ ob.cells.all one = true ∧
    ∀ b, B.blk = some b → ∃ cur : Array Value, w.heap[b]? = some (.cells cur ob.elem (0, 0)) ∧ cur.size = B.room ∧ ¬ C.F b ∧ (C.own b ∨ C.w0.heap.size ≤ b) ∧
      ob.cells.length ≤ cur.size ∧ VRs w (FB C σ H) σ ob.cells (cur.toList.take ob.cells.length)

structure RelAt (C : Cx) (σ : Nat → Option OB) (s : St) (a : Act) (w : World) : Prop where
  dfr : a.defers = []
  tm : a.tmps.size = C.nt
  os : w.os = C.w0.os
  tape : w.tape = C.w0.tape
  output : w.output = C.w0.output
  size : C.w0.heap.size ≤ w.heap.size
  frame : ∀ b, b < C.w0.heap.size → ¬ C.own b → w.heap[b]? = C.w0.heap[b]?
  env : ∀ t c, assoc s.env t = some c → ∃ v, a.tmps[t]? = some v ∧ VR w (FB C σ s.heap) σ c v
  obj : ∀ o ob, assoc s.heap o = some ob → ObR C w σ s.heap o ob
  inj : ∀ o o' ob ob' b, assoc s.heap o = some ob → assoc s.heap o' = some ob' → blkOf σ o = some b → blkOf σ o' = some b → o = o'
  nx : ∀ o, s.nx ≤ o → σ o = none
  old : ∀ o, o < C.n0 → σ o = C.σ0 o
  low : C.n0 ≤ s.nx
  new : ∀ o B b, C.n0 ≤ o → σ o = some B → B.blk = some b → C.own b ∨ C.w0.heap.size ≤ b

def Rel (C : Cx) (s : St) (a : Act) (w : World) : Prop := ∃ σ, RelAt C σ s a w

section
variable {C : Cx} {σ : Nat → Option OB} {s : St} {a : Act} {w : World}

theorem get_put {a : Act} {d t : Nat} {v : Value} : (a.put (some d) v).tmps[t]? = if d = t then (if t < a.tmps.size then some v else none) else a.tmps[t]? := by
  simp only [Act.put]
  rw [Array.getElem?_setIfInBounds]
  split
  · rename_i h; subst h; rfl
  · rfl

/-- A slot is written. (The frame must have it.) -/
theorem RelAt.put (h : RelAt C σ s a w) {d : Option Tmp} {c : CV} {v : Value} (hd : ∀ t, d = some t → t < a.tmps.size) (hv : VR w (FB C σ s.heap) σ c v) : RelAt C σ (s.put d c) (a.put d v) w := by
  cases d with
  | none => exact h
  | some d =>
    refine ⟨h.dfr, by simpa [Act.put] using h.tm, h.os, h.tape, h.output, h.size, h.frame, ?_, h.obj, h.inj, h.nx, h.old, h.low, h.new⟩
    intro t c' hc
    rw [get_put]
    simp only [St.put, assoc] at hc
    split at hc
    · rename_i e; subst e; cases hc
      rw [if_pos rfl, if_pos (hd _ rfl)]
      exact ⟨v, rfl, hv⟩
    · rename_i e
      rw [assoc_dele, if_neg e] at hc
      rw [if_neg e]
      exact h.env t c' hc
theorem RelAt.del (h : RelAt C σ s a w) {d : Option Tmp} (v : Value) : RelAt C σ (s.del d) (a.put d v) w := by
  cases d with
  | none => exact h
  | some d =>
    refine ⟨h.dfr, by simpa [Act.put] using h.tm, h.os, h.tape, h.output, h.size, h.frame, ?_, h.obj, h.inj, h.nx, h.old, h.low, h.new⟩
    intro t c' hc
    rw [get_put]
    simp only [St.del] at hc
    rw [assoc_dele] at hc
    split at hc
    · cases hc
    · rename_i e
      rw [if_neg e]
      exact h.env t c' hc

/-! ### Constants, operands -/
def constCV1 : Value → Option CV
  | .int k n => some (.int k n)
  | .bool b => some (.bool b)
  | .string s => some (.str s)
  | .pointer none => some .nilptr
  | .slice none 0 0 => some .nilsl
  | .nilFunc => some .nilfn
  | .nilIface => some .any
  | _ => none
def constCVs : List Value → Option (List CV)
  | [] => some []
  | v :: r => match constCV1 v, constCVs r with
    | some c, some cs => some (c :: cs)
    | _, _ => none
def constCV : Value → Option CV
  | .agg cs => (constCVs cs.toList).map CV.agg
  | .tuple vs => if vs.isEmpty then some (.tup []) else none
  | v => constCV1 v

theorem constCV1_ok {F : Nat → Prop} {v : Value} {c : CV} (h : constCV1 v = some c) : VRt w F c v ∧ one c = true := by
  unfold constCV1 at h
  split at h <;> first | (cases h; simp [VRt, one, Value.oneCell']; done) | (cases h)
theorem constCVs_ok {F : Nat → Prop} : ∀ (vs : List Value) (cs : List CV), constCVs vs = some cs → VRts w F cs vs ∧ cs.all one = true
  | [], cs, h => by simp only [constCVs] at h; cases h; simp [VRts]
  | v :: r, cs, h => by
    simp only [constCVs] at h
    split at h
    · rename_i c cs' h1 h2
      cases h
      obtain ⟨k1, k2⟩ := constCV1_ok (w := w) (F := F) h1
      obtain ⟨k3, k4⟩ := constCVs_ok (F := F) r cs' h2
      simp only [VRts]
      exact ⟨⟨v, r, rfl, k1, k3⟩, by simp [k2, k4]⟩
    · cases h
theorem constCV_ok {F : Nat → Prop} {v : Value} {c : CV} (h : constCV v = some c) : VRt w F c v := by
  unfold constCV at h
  split at h
  · rename_i cs
    obtain ⟨x, h1, h2⟩ := Option.map_eq_some_iff.1 h
    subst h2
    obtain ⟨k1, k2⟩ := constCVs_ok (w := w) (F := F) _ _ h1
    simp only [VRt]
    exact ⟨cs.toList, by simp, k1, k2⟩
  · rename_i vs
    split at h
    · rename_i he
      cases h
      simp only [VRt, VRts]
      exact ⟨[], by simpa using he, rfl⟩
    · cases h
  · exact (constCV1_ok h).1

def ev (s : St) : Operand → Option CV
  | .tmp t => assoc s.env t
  | .const v => constCV v
  | .func f => some (.fn f [])
  | .global _ => none
def evs (s : St) : List Operand → Option (List CV)
  | [] => some []
  | x :: r => match ev s x, evs s r with
    | some c, some cs => some (c :: cs)
    | _, _ => none

theorem ev_ok (h : RelAt C σ s a w) {x : Operand} {c : CV} (he : ev s x = some c) : VR w (FB C σ s.heap) σ c (a.eval x) := by
  cases x with
  | tmp t =>
    obtain ⟨v, h1, h2⟩ := h.env t c he
    simp only [Act.eval]
    have : a.tmps.getD t undef = v := by simp [Array.getD_eq_getD_getElem?, h1]
    rw [this]; exact h2
  | const v => exact VR.of_tree _ _ (constCV_ok he)
  | func f => cases he; simp only [VR]; exact ⟨[], rfl, rfl⟩
  | global g => cases he
theorem evs_ok (h : RelAt C σ s a w) : ∀ (xs : List Operand) (cs : List CV), evs s xs = some cs → VRs w (FB C σ s.heap) σ cs (xs.map a.eval)
  | [], cs, he => by simp only [evs] at he; cases he; rfl
  | x :: r, cs, he => by
    simp only [evs] at he
    split at he
    · rename_i c cs' h1 h2
      cases he
      simp only [VRs]
      exact ⟨_, _, rfl, ev_ok h h1, evs_ok h r cs' h2⟩
    · cases he
end

/-! ### What is told of a type -/
inductive TD where
  | int (k : IntKind)
  | bool
  | str
  | sl (e : TypeId)
  | strct (fs : List (Nat × TypeId))
  | arr (n : Nat) (e : TypeId)
  | ptr (e : TypeId)
  | func
  | oth
def tdOf : TypeDesc → TD
  | .int k => .int k
  | .bool => .bool
  | .string => .str
  | .slice e => .sl e
  | .struct fs => .strct (fs.toList.map fun f => (f.offset, f.type))
  | .array n e => .arr n e
  | .pointer e => .ptr e
  | .func _ _ _ => .func
  | _ => .oth
structure TI where
  d : TD
  size : Nat
  bytes : Nat
  zero : List CV
def TI.agg (i : TI) : Bool := match i.d with
  | .strct _ => true
  | .arr _ _ => true
  | _ => false
structure TIok (P : Program) (t : TypeId) (i : TI) : Prop where
  info : ∃ f z, P.info? t = some f ∧ f.size = i.size ∧ f.bytes = i.bytes ∧ f.zero = some z ∧ constCVs z.cells.toList = some i.zero
  und : ∃ d, P.underlying t = some d ∧ tdOf d = i.d
  len : i.zero.length = i.size
def TabOk (P : Program) (tab : List (Nat × TI)) : Prop := ∀ t i, assoc tab t = some i → TIok P t i

theorem TIok.mk' {P : Program} {t : TypeId} {i : TI} (h1 : (P.info? t).map (fun f => (f.size, f.bytes, f.zero.map fun z => constCVs z.cells.toList)) = some (i.size, i.bytes, some (some i.zero)))
    (h2 : (P.underlying t).map tdOf = some i.d) (h3 : i.zero.length = i.size) : TIok P t i := by
  obtain ⟨f, e1, e2⟩ := Option.map_eq_some_iff.1 h1
  obtain ⟨d, e3, e4⟩ := Option.map_eq_some_iff.1 h2
  simp only [Prod.mk.injEq] at e2
  obtain ⟨z, e5, e6⟩ := Option.map_eq_some_iff.1 e2.2.2
  exact ⟨⟨f, z, e1, e2.1, e2.2.1, e5, e6⟩, ⟨d, e3, e4⟩, h3⟩
theorem TabOk.nil {P : Program} : TabOk P [] := fun _ _ h => by cases h
theorem TabOk.cons {P : Program} {t : Nat} {i : TI} {r : List (Nat × TI)} (h : TIok P t i) (hr : TabOk P r) : TabOk P ((t, i) :: r) := fun u j hj => by
  simp only [assoc] at hj
  split at hj
  · rename_i e; subst e; cases hj; exact h
  · exact hr u j hj

theorem run_und {P : Program} {t : TypeId} {d : TypeDesc} (h : P.underlying t = some d) (w : World) : (underlying t).run P w = .ok d w := run_underlying h w
theorem run_info {P : Program} {t : TypeId} {f : TypeInfo} (h : P.info? t = some f) (w : World) : (typeInfo t).run P w = .ok f w := by
  simp [typeInfo, h]
theorem run_size {P : Program} {t : TypeId} {f : TypeInfo} (h : P.info? t = some f) (w : World) : (sizeOf t).run P w = .ok f.size w := by
  simp [sizeOf, run_info h]

/-! ### The operations that turn nothing in memory -/
def arith (op : BinOp) (k : IntKind) (a b : Int) : Option CV :=
  match op with
  | .add => some (.int k (k.wrap (a + b)))
  | .sub => some (.int k (k.wrap (a - b)))
  | .mul => some (.int k (k.wrap (a * b)))
  | .quo => if b = 0 then none else some (.int k (k.wrap (a.tdiv b)))
  | .rem => if b = 0 then none else some (.int k (a.tmod b))
  | .and => some (.int k (k.wrap (BitVec.ofInt k.bits a &&& BitVec.ofInt k.bits b).toNat))
  | .or => some (.int k (k.wrap (BitVec.ofInt k.bits a ||| BitVec.ofInt k.bits b).toNat))
  | .xor => some (.int k (k.wrap (BitVec.ofInt k.bits a ^^^ BitVec.ofInt k.bits b).toNat))
  | .andNot => some (.int k (k.wrap (BitVec.ofInt k.bits a &&& ~~~ BitVec.ofInt k.bits b).toNat))
  | .eql => some (.bool (a == b))
  | .neq => some (.bool (a != b))
  | .lss => some (.bool (decide (a < b)))
  | .leq => some (.bool (decide (a ≤ b)))
  | .gtr => some (.bool (decide (a > b)))
  | .geq => some (.bool (decide (a ≥ b)))
  | _ => none
def strOp (op : BinOp) (x y : ByteArray) : Option CV :=
  match op with
  | .add => if x.size + y.size ≤ 9223372036854775807 then some (.str (x ++ y)) else none
  | .eql => some (.bool (x.toList == y.toList))
  | .neq => some (.bool (!(x.toList == y.toList)))
  | .lss => some (.bool (Op.bytesLess x.toList y.toList))
  | .leq => some (.bool (Op.bytesLess x.toList y.toList || x.toList == y.toList))
  | .gtr => some (.bool (!(Op.bytesLess x.toList y.toList || x.toList == y.toList)))
  | .geq => some (.bool (!Op.bytesLess x.toList y.toList))
  | _ => none
/-- Is the one nil, held against the other? -/
def isNil : CV → Option Bool
  | .nilsl => some true
  | .nilptr => some true
  | .nilfn => some true
  | .tsl _ n => if n = 0 then none else some false
  | .osl _ _ n => if n = 0 then none else some false
  | .tptr _ => some false
  | .optr _ _ => some false
  | .fn _ _ => some false
  | _ => none
def cbin (op : BinOp) (d : TD) : CV → CV → Option CV
  | .int k a, .int k' b => match op with
    | .shl => if b < 0 then none else some (.int k (k.wrap (a * 2 ^ (min b.toNat k.bits))))
    | .shr => if b < 0 then none else some (.int k (a.fdiv (2 ^ (min b.toNat k.bits))))
    | op => if k = k' then arith op k a b else none
  | .str x, .str y => strOp op x y
  | .bool a, .bool b => match d, op with
    | .bool, .eql => some (.bool (a == b))
    | .bool, .neq => some (.bool (!(a == b)))
    | _, _ => none
  | _, _ => none

theorem VR_int {w : World} {F : Nat → Prop} {σ : Nat → Option OB} (k : IntKind) (n : Int) : VR w F σ (.int k n) (.int k n) := by simp [VR]
theorem VR_bool {w : World} {F : Nat → Prop} {σ : Nat → Option OB} (b : Bool) : VR w F σ (.bool b) (.bool b) := by simp [VR]
theorem VR_str {w : World} {F : Nat → Prop} {σ : Nat → Option OB} (b : ByteArray) : VR w F σ (.str b) (.string b) := by simp [VR]

theorem arith_ok {P : Program} {w : World} {op : BinOp} {k : IntKind} {xt : TypeId} {a b : Int} {c : CV} (hs1 : op ≠ .shl) (hs2 : op ≠ .shr) (h : arith op k a b = some c) {F : Nat → Prop} {σ : Nat → Option OB} :
    ∃ v, (binOp op xt (.int k a) (.int k b)).run P w = .ok v w ∧ VR w F σ c v := by
  cases op <;> simp only [arith] at h
  case add => cases h; exact ⟨_, by simp [binOp, Op.intArith], VR_int _ _⟩
  case sub => cases h; exact ⟨_, by simp [binOp, Op.intArith], VR_int _ _⟩
  case mul => cases h; exact ⟨_, by simp [binOp, Op.intArith], VR_int _ _⟩
  case quo =>
    split at h
    · cases h
    · cases h; rename_i hb; exact ⟨_, by simp [binOp, Op.intDiv, hb], VR_int _ _⟩
  case rem =>
    split at h
    · cases h
    · cases h; rename_i hb; exact ⟨_, by simp [binOp, Op.intDiv, hb], VR_int _ _⟩
  case and => cases h; exact ⟨_, by simp [binOp, Op.intBits], VR_int _ _⟩
  case or => cases h; exact ⟨_, by simp [binOp, Op.intBits], VR_int _ _⟩
  case xor => cases h; exact ⟨_, by simp [binOp, Op.intBits], VR_int _ _⟩
  case andNot => cases h; exact ⟨_, by simp [binOp, Op.intBits], VR_int _ _⟩
  case eql => cases h; exact ⟨_, by simp [binOp, Op.intCmp], VR_bool _⟩
  case neq => cases h; exact ⟨_, by simp [binOp, Op.intCmp], VR_bool _⟩
  case lss => cases h; exact ⟨_, by simp [binOp, Op.intCmp], VR_bool _⟩
  case leq => cases h; exact ⟨_, by simp [binOp, Op.intCmp], VR_bool _⟩
  case gtr => cases h; exact ⟨_, by simp [binOp, Op.intCmp], VR_bool _⟩
  case geq => cases h; exact ⟨_, by simp [binOp, Op.intCmp], VR_bool _⟩
  all_goals first | cases h | exact absurd rfl hs1 | exact absurd rfl hs2

theorem strOp_ok {P : Program} {w : World} {op : BinOp} {xt : TypeId} {a b : ByteArray} {c : CV} (h : strOp op a b = some c) {F : Nat → Prop} {σ : Nat → Option OB} :
    ∃ v, (binOp op xt (.string a) (.string b)).run P w = .ok v w ∧ VR w F σ c v := by
  cases op <;> simp only [strOp] at h
  case add =>
    split at h
    · rename_i hb
      cases h
      refine ⟨_, ?_, VR_str _⟩
      have hm : IntKind.i64.max = 9223372036854775807 := by simp [IntKind.max, IntKind.signed, IntKind.bits]
      simp only [binOp, Op.stringOp, hm]
      rw [if_neg (by omega)]; rfl
    · cases h
  case eql => cases h; exact ⟨_, by simp [binOp, Op.stringOp], VR_bool _⟩
  case neq => cases h; exact ⟨_, by simp [binOp, Op.stringOp], VR_bool _⟩
  case lss => cases h; exact ⟨_, by simp [binOp, Op.stringOp], VR_bool _⟩
  case leq => cases h; exact ⟨_, by simp [binOp, Op.stringOp], VR_bool _⟩
  case gtr => cases h; exact ⟨_, by simp [binOp, Op.stringOp], VR_bool _⟩
  case geq => cases h; exact ⟨_, by simp [binOp, Op.stringOp], VR_bool _⟩
  all_goals cases h
end Go.Can
