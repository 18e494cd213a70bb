/- Canonical values and their relation to the model's values and memory. No function of the program is mentioned here. -/
import Derived.StillTail
import Derived.ScopeJumps
import Derived.Laws.AppendOwn
import Derived.Laws.CopyOwn
import Derived.Laws.MakeOwn
import Derived.Laws.OwnMore
import Derived.Below
import Derived.IntWalk
namespace Go.Can
open Go.RowKit

/-- Canonical values. 'tsl', 'tptr': immutable memory, its cells written out from the address on. 'osl', 'optr': into an object of one's own, by its number. 'any': one cell of which nothing is known. -/
inductive CV where
  | int (k : IntKind) (n : Int)
  | bool (b : Bool)
  | str (s : ByteArray)
  | agg (cs : List CV)
  | tsl (cs : List CV) (n : Nat)
  | nilsl
  | tptr (cs : List CV)
  | nilptr
  | fn (f : FuncId) (caps : List CV)
  | nilfn
  | iface (t : TypeId) (cs : List CV)
  | iter (k : Nat) (s : ByteArray) (p : Nat)
  | tup (vs : List CV)
  | osl (o off n : Nat)
  | optr (o off : Nat)
  | any

instance : Inhabited CV := ⟨.nilptr⟩

/-- A value of one cell. -/
def one : CV → Bool
  | .agg _ => false
  | .tup _ => false
  | .iter _ _ _ => false
  | _ => true
def CV.cells : CV → List CV
  | .agg cs => cs
  | c => [c]

mutual
/-- The immutable ones: the value v reads as c; no cell of it lies in a block of F. -/
def VRt (w : World) (F : Nat → Prop) : CV → Value → Prop
  | .int k n, v => v = .int k n
  | .bool b, v => v = .bool b
  | .str s, v => v = .string s
  | .agg cs, v => ∃ vs : List Value, v = .agg vs.toArray ∧ VRts w F cs vs ∧ cs.all one = true
  | .tsl cs n, v => ∃ A cap, v = .slice A n cap ∧ n ≤ cap ∧ cap ≤ maxLen ∧ ((n = 0 ∧ cs = []) ∨ ∃ ad, A = some ad ∧ MRt w F cs ad)
  | .nilsl, v => v = .slice none 0 0
  | .tptr cs, v => ∃ ad, v = .pointer (some ad) ∧ MRt w F cs ad
  | .nilptr, v => v = .pointer none
  | .fn f caps, v => ∃ vs : List Value, v = .func (.func f) #[] vs.toArray ∧ VRts w F caps vs
  | .iface f caps, v => ∃ vs : List Value, v = .iface f (vs.headD (.tuple #[])) ∧ VRts w F caps vs
  | .nilfn, v => v = .nilFunc
  | .iter _ _ _, _ => False
  | .tup cs, v => ∃ vs : List Value, v = .tuple vs.toArray ∧ VRts w F cs vs
  | .osl _ _ _, _ => False
  | .optr _ _, _ => False
  | .any, v => v.oneCell' = true
def VRts (w : World) (F : Nat → Prop) : List CV → List Value → Prop
  | [], vs => vs = []
  | c :: cs, vs => ∃ v r, vs = v :: r ∧ VRt w F c v ∧ VRts w F cs r
/-- The cells from an address on. -/
def MRt (w : World) (F : Nat → Prop) : List CV → Addr → Prop
  | [], _ => True
  | c :: cs, ad => (∃ u, w.cell? ad = some u ∧ ¬ F ad.block ∧ VRt w F c u) ∧ one c = true ∧ MRt w F cs (ad.add 1)
end

theorem add_block (a : Addr) (n : Nat) : (a.add n).block = a.block := by unfold Addr.add; split <;> rfl
theorem add_add (a : Addr) (i j : Nat) : (a.add i).add j = a.add (i + j) := by
  unfold Addr.add
  by_cases hi : i = 0 <;> by_cases hj : j = 0 <;> simp [hi, hj, Nat.add_assoc]
theorem add_zero (a : Addr) : a.add 0 = a := by simp [Addr.add]
theorem add_lit (b i j : Nat) : (⟨b, i, none⟩ : Addr).add j = ⟨b, i + j, none⟩ := by
  unfold Addr.add; split <;> simp_all

/-- What is kept of readings when the world turns: the cells outside F stay, and none of them comes under F'. -/
def KeepsC (w w' : World) (F F' : Nat → Prop) : Prop := ∀ ad u, ¬ F ad.block → w.cell? ad = some u → w'.cell? ad = some u ∧ ¬ F' ad.block
/-- The same, and the iterators over strings. -/
def Keeps (w w' : World) (F F' : Nat → Prop) : Prop := KeepsC w w' F F' ∧
  ∀ r s p, ¬ F r → w.heap[r]? = some (.stringIter s p) → w'.heap[r]? = some (.stringIter s p) ∧ ¬ F' r

theorem Keeps.same {w : World} {F F' : Nat → Prop} (h : ∀ b, F' b → F b) : Keeps w w F F' := ⟨fun _ _ hf hu => ⟨hu, fun k => hf (h _ k)⟩, fun _ _ _ hf hu => ⟨hu, fun k => hf (h _ k)⟩⟩

mutual
theorem VRt.keep {w w' : World} {F F' : Nat → Prop} (h : KeepsC w w' F F') : ∀ (c : CV) (v : Value), VRt w F c v → VRt w' F' c v
  | .int _ _, _, hv => by simpa [VRt] using hv
  | .bool _, _, hv => by simpa [VRt] using hv
  | .str _, _, hv => by simpa [VRt] using hv
  | .agg cs, v, hv => by
    simp only [VRt] at hv ⊢
    obtain ⟨vs, e, r, h1⟩ := hv
    exact ⟨vs, e, VRts.keep h cs vs r, h1⟩
  | .nilsl, _, hv => by simpa [VRt] using hv
  | .tsl cs n, v, hv => by
    simp only [VRt] at hv ⊢
    obtain ⟨A, cap, e, h1, h2, h4⟩ := hv
    refine ⟨A, cap, e, h1, h2, ?_⟩
    rcases h4 with h4 | ⟨ad, ea, hm⟩
    · exact .inl h4
    · exact .inr ⟨ad, ea, MRt.keep h cs ad hm⟩
  | .tptr cs, v, hv => by
    simp only [VRt] at hv ⊢
    obtain ⟨ad, e, hm⟩ := hv
    exact ⟨ad, e, MRt.keep h cs ad hm⟩
  | .nilptr, _, hv => by simpa [VRt] using hv
  | .fn f caps, v, hv => by
    simp only [VRt] at hv ⊢
    obtain ⟨vs, e, r⟩ := hv
    exact ⟨vs, e, VRts.keep h caps vs r⟩
  | .iface f caps, v, hv => by
    simp only [VRt] at hv ⊢
    obtain ⟨vs, e, r⟩ := hv
    exact ⟨vs, e, VRts.keep h caps vs r⟩
  | .nilfn, _, hv => by simpa [VRt] using hv
  | .iter _ _ _, _, hv => by simp [VRt] at hv
  | .tup cs, v, hv => by
    simp only [VRt] at hv ⊢
    obtain ⟨vs, e, r⟩ := hv
    exact ⟨vs, e, VRts.keep h cs vs r⟩
  | .osl _ _ _, _, hv => by simp [VRt] at hv
  | .optr _ _, _, hv => by simp [VRt] at hv
  | .any, _, hv => by simpa [VRt] using hv
theorem VRts.keep {w w' : World} {F F' : Nat → Prop} (h : KeepsC w w' F F') : ∀ (cs : List CV) (vs : List Value), VRts w F cs vs → VRts w' F' cs vs
  | [], _, hv => by simpa [VRts] using hv
  | c :: cs, vs, hv => by
    simp only [VRts] at hv ⊢
    obtain ⟨v, r, e, h1, h2⟩ := hv
    exact ⟨v, r, e, VRt.keep h c v h1, VRts.keep h cs r h2⟩
theorem MRt.keep {w w' : World} {F F' : Nat → Prop} (h : KeepsC w w' F F') : ∀ (cs : List CV) (ad : Addr), MRt w F cs ad → MRt w' F' cs ad
  | [], _, _ => by simp [MRt]
  | c :: cs, ad, hv => by
    simp only [MRt] at hv ⊢
    obtain ⟨⟨u, h1, h2, h3⟩, ho, h4⟩ := hv
    obtain ⟨k1, k2⟩ := h ad u h2 h1
    exact ⟨⟨u, k1, k2, VRt.keep h c u h3⟩, ho, MRt.keep h cs _ h4⟩
end

theorem MRt.drop {w : World} {F : Nat → Prop} : ∀ (k : Nat) (cs : List CV) (ad : Addr), MRt w F cs ad → MRt w F (cs.drop k) (ad.add k)
  | 0, cs, ad, h => by simpa [add_zero] using h
  | k + 1, [], ad, _ => by simp [MRt]
  | k + 1, c :: cs, ad, h => by
    simp only [MRt] at h
    have := MRt.drop k cs _ h.2.2
    rw [add_add] at this
    simpa [Nat.add_comm] using this

theorem MRt.take {w : World} {F : Nat → Prop} : ∀ (k : Nat) (cs : List CV) (ad : Addr), MRt w F cs ad → MRt w F (cs.take k) ad
  | 0, _, _, _ => by simp [MRt]
  | k + 1, [], _, _ => by simp [MRt]
  | k + 1, c :: cs, ad, h => by
    simp only [MRt] at h
    simp only [List.take_succ_cons, MRt]
    exact ⟨h.1, h.2.1, MRt.take k cs _ h.2.2⟩

/-- The cells, as a list of the memory's own values. -/
theorem MRt.cells {w : World} {F : Nat → Prop} : ∀ (cs : List CV) (ad : Addr), MRt w F cs ad → ∃ us : List Value, VRts w F cs us ∧ us.length = cs.length ∧ ∀ j u, us[j]? = some u → w.cell? (ad.add j) = some u
  | [], ad, _ => ⟨[], by simp [VRts], rfl, by simp⟩
  | c :: cs, ad, h => by
    simp only [MRt] at h
    obtain ⟨⟨u, h1, h2, h3⟩, _, h4⟩ := h
    obtain ⟨us, k1, k2, k3⟩ := MRt.cells cs _ h4
    refine ⟨u :: us, by simp only [VRts]; exact ⟨u, us, rfl, h3, k1⟩, by simp [k2], ?_⟩
    intro j x hx
    cases j with
    | zero => simp at hx; subst hx; rw [add_zero]; exact h1
    | succ j =>
      have := k3 j x (by simpa using hx)
      rw [add_add] at this
      rwa [Nat.add_comm] at this

theorem VRts.length {w : World} {F : Nat → Prop} : ∀ (cs : List CV) (vs : List Value), VRts w F cs vs → vs.length = cs.length
  | [], vs, h => by simp only [VRts] at h; subst h; rfl
  | c :: cs, vs, h => by
    simp only [VRts] at h
    obtain ⟨v, r, rfl, _, h2⟩ := h
    simp [VRts.length cs r h2]

theorem VRts.get {w : World} {F : Nat → Prop} : ∀ (cs : List CV) (vs : List Value), VRts w F cs vs → ∀ (i : Nat) (c : CV), cs[i]? = some c → ∃ v, vs[i]? = some v ∧ VRt w F c v
  | [], vs, _, i, c, hi => by simp at hi
  | c :: cs, vs, h, i, d, hi => by
    simp only [VRts] at h
    obtain ⟨v, r, rfl, h1, h2⟩ := h
    cases i with
    | zero => simp at hi; subst hi; exact ⟨v, rfl, h1⟩
    | succ i => simpa using VRts.get cs r h2 i d (by simpa using hi)

/-- What is known of an object's place: its block (none: a slice that is nil or has no room), how many cells the block has, the size of an element. -/
structure OB where
  blk : Option Nat
  room : Nat
  sz : Nat

mutual
/-- The values of a frame and of the objects' cells. -/
def VR (w : World) (F : Nat → Prop) (σ : Nat → Option OB) : CV → Value → Prop
  | .osl o off n, v => ∃ B, σ o = some B ∧ match B.blk with
      | none => v = .slice none 0 0 ∧ off = 0 ∧ n = 0
      | some b => ∃ cap, v = .slice (some ⟨b, off, none⟩) n cap ∧ n ≤ cap ∧ cap ≤ maxLen ∧ off + cap * B.sz ≤ B.room ∧ (off = 0 → cap * B.sz = B.room)
  | .optr o off, v => ∃ B b, σ o = some B ∧ B.blk = some b ∧ v = .pointer (some ⟨b, off, none⟩)
  | .agg cs, v => ∃ vs : List Value, v = .agg vs.toArray ∧ VRs w F σ cs vs ∧ cs.all one = true
  | .fn f caps, v => ∃ vs : List Value, v = .func (.func f) #[] vs.toArray ∧ VRs w F σ caps vs
  | .iface f caps, v => ∃ vs : List Value, v = .iface f (vs.headD (.tuple #[])) ∧ VRs w F σ caps vs
  | .tup cs, v => ∃ vs : List Value, v = .tuple vs.toArray ∧ VRs w F σ cs vs
  | .int k n, v => v = .int k n
  | .bool b, v => v = .bool b
  | .str s, v => v = .string s
  | .tsl cs n, v => VRt w F (.tsl cs n) v
  | .nilsl, v => v = .slice none 0 0
  | .tptr cs, v => VRt w F (.tptr cs) v
  | .nilptr, v => v = .pointer none
  | .nilfn, v => v = .nilFunc
  | .iter k s p, v => ∃ B r, σ k = some B ∧ B.blk = some r ∧ v = .pointer (some ⟨r, 0, none⟩) ∧ w.heap[r]? = some (.stringIter s p) ∧ ¬ F r
  | .any, v => v.oneCell' = true
def VRs (w : World) (F : Nat → Prop) (σ : Nat → Option OB) : List CV → List Value → Prop
  | [], vs => vs = []
  | c :: cs, vs => ∃ v r, vs = v :: r ∧ VR w F σ c v ∧ VRs w F σ cs r
end

mutual
/-- No object of one's own in it, on the surface. -/
def tree : CV → Bool
  | .osl _ _ _ => false
  | .optr _ _ => false
  | .iter _ _ _ => false
  | .agg cs => trees cs
  | .fn _ cs => trees cs
  | .iface _ cs => trees cs
  | .tup cs => trees cs
  | _ => true
def trees : List CV → Bool
  | [] => true
  | c :: cs => tree c && trees cs
end

mutual
theorem VR.of_tree {w : World} {F : Nat → Prop} {σ : Nat → Option OB} : ∀ (c : CV) (v : Value), VRt w F c v → VR w F σ c v
  | .int _ _, _, h => by simpa [VR, VRt] using h
  | .bool _, _, h => by simpa [VR, VRt] using h
  | .str _, _, h => by simpa [VR, VRt] using h
  | .agg cs, v, h => by
    simp only [VR, VRt] at h ⊢
    obtain ⟨vs, e, r, h1⟩ := h
    exact ⟨vs, e, VRs.of_tree cs vs r, h1⟩
  | .nilsl, _, h => by simpa [VR, VRt] using h
  | .tsl _ _, _, h => by simpa only [VR] using h
  | .tptr _, _, h => by simpa only [VR] using h
  | .nilptr, _, h => by simpa [VR, VRt] using h
  | .fn _ cs, v, h => by
    simp only [VR, VRt] at h ⊢
    obtain ⟨vs, e, r⟩ := h
    exact ⟨vs, e, VRs.of_tree cs vs r⟩
  | .iface _ cs, v, h => by
    simp only [VR, VRt] at h ⊢
    obtain ⟨vs, e, r⟩ := h
    exact ⟨vs, e, VRs.of_tree cs vs r⟩
  | .nilfn, _, h => by simpa [VR, VRt] using h
  | .iter _ _ _, _, h => by simp [VRt] at h
  | .tup cs, v, h => by
    simp only [VR, VRt] at h ⊢
    obtain ⟨vs, e, r⟩ := h
    exact ⟨vs, e, VRs.of_tree cs vs r⟩
  | .osl _ _ _, _, h => by simp [VRt] at h
  | .optr _ _, _, h => by simp [VRt] at h
  | .any, _, h => by simpa [VR, VRt] using h
theorem VRs.of_tree {w : World} {F : Nat → Prop} {σ : Nat → Option OB} : ∀ (cs : List CV) (vs : List Value), VRts w F cs vs → VRs w F σ cs vs
  | [], _, h => by simpa [VRs, VRts] using h
  | c :: cs, vs, h => by
    simp only [VRs, VRts] at h ⊢
    obtain ⟨v, r, e, h1, h2⟩ := h
    exact ⟨v, r, e, VR.of_tree c v h1, VRs.of_tree cs r h2⟩
end

mutual
theorem VR.to_tree {w : World} {F : Nat → Prop} {σ : Nat → Option OB} : ∀ (c : CV) (v : Value), tree c = true → VR w F σ c v → VRt w F c v
  | .int _ _, _, _, h => by simpa [VR, VRt] using h
  | .bool _, _, _, h => by simpa [VR, VRt] using h
  | .str _, _, _, h => by simpa [VR, VRt] using h
  | .agg cs, v, ht, h => by
    simp only [VR, VRt, tree] at h ht ⊢
    obtain ⟨vs, e, r, h1⟩ := h
    exact ⟨vs, e, VRs.to_tree cs vs ht r, h1⟩
  | .nilsl, _, _, h => by simpa [VR, VRt] using h
  | .tsl _ _, _, _, h => by simpa only [VR] using h
  | .tptr _, _, _, h => by simpa only [VR] using h
  | .nilptr, _, _, h => by simpa [VR, VRt] using h
  | .fn _ cs, v, ht, h => by
    simp only [VR, VRt, tree] at h ht ⊢
    obtain ⟨vs, e, r⟩ := h
    exact ⟨vs, e, VRs.to_tree cs vs ht r⟩
  | .iface _ cs, v, ht, h => by
    simp only [VR, VRt, tree] at h ht ⊢
    obtain ⟨vs, e, r⟩ := h
    exact ⟨vs, e, VRs.to_tree cs vs ht r⟩
  | .nilfn, _, _, h => by simpa [VR, VRt] using h
  | .iter _ _ _, _, ht, _ => by simp [tree] at ht
  | .tup cs, v, ht, h => by
    simp only [VR, VRt, tree] at h ht ⊢
    obtain ⟨vs, e, r⟩ := h
    exact ⟨vs, e, VRs.to_tree cs vs ht r⟩
  | .osl _ _ _, _, ht, _ => by simp [tree] at ht
  | .optr _ _, _, ht, _ => by simp [tree] at ht
  | .any, _, _, h => by simpa [VR, VRt] using h
theorem VRs.to_tree {w : World} {F : Nat → Prop} {σ : Nat → Option OB} : ∀ (cs : List CV) (vs : List Value), trees cs = true → VRs w F σ cs vs → VRts w F cs vs
  | [], _, _, h => by simpa [VRs, VRts] using h
  | c :: cs, vs, ht, h => by
    simp only [VRs, VRts, trees, Bool.and_eq_true] at h ht ⊢
    obtain ⟨v, r, e, h1, h2⟩ := h
    exact ⟨v, r, e, VR.to_tree c v ht.1 h1, VRs.to_tree cs r ht.2 h2⟩
end

mutual
/-- The value names the object o. -/
def noRef (o : Nat) : CV → Bool
  | .osl p _ _ => p != o
  | .optr p _ => p != o
  | .iter p _ _ => p != o
  | .agg cs => noRefs o cs
  | .fn _ cs => noRefs o cs
  | .iface _ cs => noRefs o cs
  | .tup cs => noRefs o cs
  | _ => true
def noRefs (o : Nat) : List CV → Bool
  | [] => true
  | c :: cs => noRef o c && noRefs o cs
end

mutual
/-- A reading is kept when the world turns as 'Keeps' says and the places of all objects that it names stay. -/
theorem VR.keep {w w' : World} {F F' : Nat → Prop} {σ σ' : Nat → Option OB} (h : Keeps w w' F F') : ∀ (c : CV) (v : Value), (∀ o, noRef o c = false → σ' o = σ o) → VR w F σ c v → VR w' F' σ' c v
  | .int _ _, _, _, hv => by simpa [VR] using hv
  | .bool _, _, _, hv => by simpa [VR] using hv
  | .str _, _, _, hv => by simpa [VR] using hv
  | .agg cs, v, hr, hv => by
    simp only [VR] at hv ⊢
    obtain ⟨vs, e, r, h1⟩ := hv
    exact ⟨vs, e, VRs.keep h cs vs (fun o ho => hr o (by simpa [noRef] using ho)) r, h1⟩
  | .nilsl, _, _, hv => by simpa [VR] using hv
  | .tsl _ _, _, _, hv => by simp only [VR] at hv ⊢; exact VRt.keep h.1 _ _ hv
  | .tptr _, _, _, hv => by simp only [VR] at hv ⊢; exact VRt.keep h.1 _ _ hv
  | .nilptr, _, _, hv => by simpa [VR] using hv
  | .fn _ cs, v, hr, hv => by
    simp only [VR] at hv ⊢
    obtain ⟨vs, e, r⟩ := hv
    exact ⟨vs, e, VRs.keep h cs vs (fun o ho => hr o (by simpa [noRef] using ho)) r⟩
  | .iface _ cs, v, hr, hv => by
    simp only [VR] at hv ⊢
    obtain ⟨vs, e, r⟩ := hv
    exact ⟨vs, e, VRs.keep h cs vs (fun o ho => hr o (by simpa [noRef] using ho)) r⟩
  | .nilfn, _, _, hv => by simpa [VR] using hv
  | .iter k s p, v, hr, hv => by
    have hs := hr k (by simp [noRef])
    simp only [VR] at hv ⊢
    obtain ⟨B, r, e1, e2, e3, h1, h2⟩ := hv
    obtain ⟨k1, k2⟩ := h.2 r s p h2 h1
    exact ⟨B, r, hs.trans e1, e2, e3, k1, k2⟩
  | .tup cs, v, hr, hv => by
    simp only [VR] at hv ⊢
    obtain ⟨vs, e, r⟩ := hv
    exact ⟨vs, e, VRs.keep h cs vs (fun o ho => hr o (by simpa [noRef] using ho)) r⟩
  | .osl o off n, v, hr, hv => by
    have := hr o (by simp [noRef])
    simp only [VR] at hv ⊢
    rw [this]; exact hv
  | .optr o off, v, hr, hv => by
    have := hr o (by simp [noRef])
    simp only [VR] at hv ⊢
    rw [this]; exact hv
  | .any, _, _, hv => by simpa [VR] using hv
theorem VRs.keep {w w' : World} {F F' : Nat → Prop} {σ σ' : Nat → Option OB} (h : Keeps w w' F F') : ∀ (cs : List CV) (vs : List Value), (∀ o, noRefs o cs = false → σ' o = σ o) → VRs w F σ cs vs → VRs w' F' σ' cs vs
  | [], _, _, hv => by simpa [VRs] using hv
  | c :: cs, vs, hr, hv => by
    simp only [VRs] at hv ⊢
    obtain ⟨v, r, e, h1, h2⟩ := hv
    exact ⟨v, r, e, VR.keep h c v (fun o ho => hr o (by simp [noRefs, ho])) h1, VRs.keep h cs r (fun o ho => hr o (by simp [noRefs, ho])) h2⟩
end

mutual
/-- No iterator in it, on the surface. -/
def noIter : CV → Bool
  | .iter _ _ _ => false
  | .agg cs => noIters cs
  | .fn _ cs => noIters cs
  | .iface _ cs => noIters cs
  | .tup cs => noIters cs
  | _ => true
def noIters : List CV → Bool
  | [] => true
  | c :: cs => noIter c && noIters cs
end
mutual
/-- A reading without iterators is kept when the cells are. -/
theorem VR.keepN {w w' : World} {F F' : Nat → Prop} {σ : Nat → Option OB} (h : KeepsC w w' F F') : ∀ (c : CV) (v : Value), noIter c = true → VR w F σ c v → VR w' F' σ c v
  | .int _ _, _, _, hv => by simpa [VR] using hv
  | .bool _, _, _, hv => by simpa [VR] using hv
  | .str _, _, _, hv => by simpa [VR] using hv
  | .nilsl, _, _, hv => by simpa [VR] using hv
  | .tsl _ _, _, _, hv => by simp only [VR] at hv ⊢; exact VRt.keep h _ _ hv
  | .tptr _, _, _, hv => by simp only [VR] at hv ⊢; exact VRt.keep h _ _ hv
  | .nilptr, _, _, hv => by simpa [VR] using hv
  | .nilfn, _, _, hv => by simpa [VR] using hv
  | .any, _, _, hv => by simpa [VR] using hv
  | .osl _ _ _, _, _, hv => by simpa only [VR] using hv
  | .optr _ _, _, _, hv => by simpa only [VR] using hv
  | .iter _ _ _, _, hn, _ => by simp [noIter] at hn
  | .agg cs, v, hn, hv => by
    simp only [VR] at hv ⊢
    obtain ⟨vs, e, r, h1⟩ := hv
    exact ⟨vs, e, VRs.keepN h cs vs (by simpa [noIter] using hn) r, h1⟩
  | .fn _ cs, v, hn, hv => by
    simp only [VR] at hv ⊢
    obtain ⟨vs, e, r⟩ := hv
    exact ⟨vs, e, VRs.keepN h cs vs (by simpa [noIter] using hn) r⟩
  | .iface _ cs, v, hn, hv => by
    simp only [VR] at hv ⊢
    obtain ⟨vs, e, r⟩ := hv
    exact ⟨vs, e, VRs.keepN h cs vs (by simpa [noIter] using hn) r⟩
  | .tup cs, v, hn, hv => by
    simp only [VR] at hv ⊢
    obtain ⟨vs, e, r⟩ := hv
    exact ⟨vs, e, VRs.keepN h cs vs (by simpa [noIter] using hn) r⟩
theorem VRs.keepN {w w' : World} {F F' : Nat → Prop} {σ : Nat → Option OB} (h : KeepsC w w' F F') : ∀ (cs : List CV) (vs : List Value), noIters cs = true → VRs w F σ cs vs → VRs w' F' σ cs vs
  | [], _, _, hv => by simpa [VRs] using hv
  | c :: cs, vs, hn, hv => by
    simp only [noIters, Bool.and_eq_true] at hn
    simp only [VRs] at hv ⊢
    obtain ⟨v, r, e, h1, h2⟩ := hv
    exact ⟨v, r, e, VR.keepN h c v hn.1 h1, VRs.keepN h cs r hn.2 h2⟩
end

theorem VRs.length {w : World} {F : Nat → Prop} {σ : Nat → Option OB} : ∀ (cs : List CV) (vs : List Value), VRs w F σ cs vs → vs.length = cs.length
  | [], vs, h => by simp only [VRs] at h; subst h; rfl
  | c :: cs, vs, h => by
    simp only [VRs] at h
    obtain ⟨v, r, rfl, _, h2⟩ := h
    simp [VRs.length cs r h2]

theorem VRs.get {w : World} {F : Nat → Prop} {σ : Nat → Option OB} : ∀ (cs : List CV) (vs : List Value), VRs w F σ cs vs → ∀ (i : Nat) (c : CV), cs[i]? = some c → ∃ v, vs[i]? = some v ∧ VR w F σ c v
  | [], vs, _, i, c, hi => by simp at hi
  | c :: cs, vs, h, i, d, hi => by
    simp only [VRs] at h
    obtain ⟨v, r, rfl, h1, h2⟩ := h
    cases i with
    | zero => simp at hi; subst hi; exact ⟨v, rfl, h1⟩
    | succ i => simpa using VRs.get cs r h2 i d (by simpa using hi)

theorem VRs.of_get {w : World} {F : Nat → Prop} {σ : Nat → Option OB} : ∀ (cs : List CV) (vs : List Value), vs.length = cs.length → (∀ (i : Nat) (c : CV), cs[i]? = some c → ∃ v, vs[i]? = some v ∧ VR w F σ c v) → VRs w F σ cs vs
  | [], vs, hl, _ => by simp only [VRs]; exact List.eq_nil_of_length_eq_zero hl
  | c :: cs, [], hl, _ => by simp at hl
  | c :: cs, v :: vs, hl, h => by
    simp only [VRs]
    refine ⟨v, vs, rfl, ?_, VRs.of_get cs vs (by simpa using hl) fun i d hi => ?_⟩
    · obtain ⟨u, hu, hr⟩ := h 0 c rfl
      simp at hu; subst hu; exact hr
    · simpa using h (i + 1) d (by simpa using hi)

theorem VRs.take {w : World} {F : Nat → Prop} {σ : Nat → Option OB} (k : Nat) (cs : List CV) (vs : List Value) (h : VRs w F σ cs vs) : VRs w F σ (cs.take k) (vs.take k) := by
  refine VRs.of_get _ _ (by simp [VRs.length cs vs h]) fun i c hi => ?_
  rw [List.getElem?_take] at hi ⊢
  split at hi
  · rename_i hk; rw [if_pos hk]; exact VRs.get cs vs h i c hi
  · cases hi
theorem VRs.drop {w : World} {F : Nat → Prop} {σ : Nat → Option OB} (k : Nat) (cs : List CV) (vs : List Value) (h : VRs w F σ cs vs) : VRs w F σ (cs.drop k) (vs.drop k) := by
  refine VRs.of_get _ _ (by simp [VRs.length cs vs h]) fun i c hi => ?_
  rw [List.getElem?_drop] at hi ⊢
  exact VRs.get cs vs h _ c hi
theorem VRs.append {w : World} {F : Nat → Prop} {σ : Nat → Option OB} : ∀ (cs ds : List CV) (vs us : List Value), VRs w F σ cs vs → VRs w F σ ds us → VRs w F σ (cs ++ ds) (vs ++ us)
  | [], ds, vs, us, h, k => by simp only [VRs] at h; subst h; simpa using k
  | c :: cs, ds, vs, us, h, k => by
    simp only [VRs] at h
    obtain ⟨v, r, rfl, h1, h2⟩ := h
    simp only [List.cons_append, VRs]
    exact ⟨v, r ++ us, rfl, h1, VRs.append cs ds r us h2 k⟩

theorem VR.one_cell {w : World} {F : Nat → Prop} {σ : Nat → Option OB} (c : CV) (v : Value) (h1 : one c = true) (h : VR w F σ c v) : v.oneCell' = true := by
  cases c <;> simp only [VR, VRt, one, Bool.false_eq_true] at h h1
  case tsl => obtain ⟨A, cap, rfl, _⟩ := h; rfl
  case tptr => obtain ⟨ad, rfl, _⟩ := h; rfl
  case fn => obtain ⟨vs, rfl, _⟩ := h; rfl
  case iface => obtain ⟨vs, rfl, _⟩ := h; rfl
  case osl o off n =>
    obtain ⟨B, _, h⟩ := h
    split at h
    · obtain ⟨rfl, _⟩ := h; rfl
    · obtain ⟨cap, rfl, _⟩ := h; rfl
  case optr => obtain ⟨B, b, _, _, rfl⟩ := h; rfl
  case any => exact h
  all_goals (subst h; rfl)

theorem VRs.one_cells {w : World} {F : Nat → Prop} {σ : Nat → Option OB} : ∀ (cs : List CV) (vs : List Value), cs.all one = true → VRs w F σ cs vs → ∀ u ∈ vs, u.oneCell' = true
  | [], vs, _, h => by simp only [VRs] at h; subst h; simp
  | c :: cs, vs, ha, h => by
    simp only [VRs] at h
    obtain ⟨v, r, rfl, h1, h2⟩ := h
    simp only [List.all_cons, Bool.and_eq_true] at ha
    intro u hu
    rcases List.mem_cons.1 hu with rfl | hu
    · exact VR.one_cell c _ ha.1 h1
    · exact VRs.one_cells cs r ha.2 h2 u hu

theorem one_cells_eq {v : Value} (h : v.oneCell' = true) : v.cells = #[v] := by
  cases v <;> simp_all [Value.oneCell', Value.cells]

/-- What a value puts into memory: its cells. -/
theorem VR.flat {w : World} {F : Nat → Prop} {σ : Nat → Option OB} (c : CV) (v : Value) (hc : ∀ cs, c ≠ .tup cs) (hi : ∀ k s p, c ≠ .iter k s p) (h : VR w F σ c v) : VRs w F σ c.cells v.cells.toList ∧ c.cells.all one = true := by
  by_cases ha : ∃ cs, c = .agg cs
  · obtain ⟨cs, rfl⟩ := ha
    simp only [VR] at h
    obtain ⟨vs, rfl, r, h1⟩ := h
    exact ⟨by simpa [CV.cells, Value.cells] using r, h1⟩
  · have h1 : one c = true := by
      cases c <;> simp_all [one]
    have h2 : c.cells = [c] := by
      cases c <;> simp_all [CV.cells]
    rw [h2, one_cells_eq (VR.one_cell c v h1 h)]
    exact ⟨by simp only [VRs]; exact ⟨v, [], rfl, h, rfl⟩, by simp [h1]⟩

theorem MRt.ones {w : World} {F : Nat → Prop} : ∀ (cs : List CV) (ad : Addr), MRt w F cs ad → cs.all one = true
  | [], _, _ => rfl
  | c :: cs, ad, h => by
    simp only [MRt] at h
    simp [h.2.1, MRt.ones cs _ h.2.2]
end Go.Can
