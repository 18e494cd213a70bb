/- The forms in which walks are typed: rules at the head of a sequence, encoders of lists, what simp may open. No function of the program is mentioned here. -/
import Derived.Test.YtniilppjegieaaaGreatCan12
namespace Go.Can
open Go.RowKit

section
variable {P : Program} {C : Cx} {s : St} {ops : Array Oper} {tab : List (Nat × TI)} {Q : Exit → St → Prop} {x y z : Code}

theorem thenS_n {K : St → Prop} (h : K s) : thenS K Q .normal s := h
theorem thenS_e {K : St → Prop} {i : Nat} (h : Q (.exit i) s) : thenS K Q (.exit i) s := h
theorem thenS_r {K : St → Prop} (h : Q .ret s) : thenS K Q .ret s := h
theorem blockS_n {i : Nat} (h : Q .normal s) : blockS i Q .normal s := h
theorem blockS_r {i : Nat} (h : Q .ret s) : blockS i Q .ret s := h
theorem blockS_e {i : Nat} (h : Q .normal s) : blockS i Q (.exit i) s := by simp [blockS, h]
theorem blockS_e' {i j : Nat} (hij : j ≠ i) (h : Q (.exit j) s) : blockS i Q (.exit j) s := by simp [blockS, hij, h]
theorem T.cond_true {c : Operand} (hc : ev s c = some (.bool true)) (h : T P C x s Q) : T P C (.cond c x y) s Q := T.cond hc (by simpa using h)
theorem T.cond_false {c : Operand} (hc : ev s c = some (.bool false)) (h : T P C y s Q) : T P C (.cond c x y) s Q := T.cond hc (by simpa using h)
theorem T.cond_if {c : Operand} {b : Bool} (hc : ev s c = some (.bool b)) (h1 : b = true → T P C x s Q) (h2 : b = false → T P C y s Q) : T P C (.cond c x y) s Q := by
  cases b
  · exact T.cond_false hc (h2 rfl)
  · exact T.cond_true hc (h1 rfl)
/-- The end, said anew. -/
theorem upTo.trim {I : St → Prop} (ks os : List Nat) (n : Nat) (h : trimOk s ks os n = true) (hn0 : C.n0 ≤ n) (hi : I (s.trim ks os n)) : upTo C I s := ⟨_, hi, Le.trim ks os n h hn0⟩
theorem Le.to {s' : St} (ks os : List Nat) (n : Nat) (h : trimOk s ks os n = true) (hn0 : C.n0 ≤ n) (e : s.trim ks os n = s') : Le C s s' := e ▸ Le.trim ks os n h hn0
theorem upTo.here {I : St → Prop} (hi : I s) : upTo C I s := ⟨s, hi, Le.refl s⟩
theorem upTo.le {I : St → Prop} {s' : St} (h : Le C s s') (hi : upTo C I s') : upTo C I s := by
  obtain ⟨s'', h1, h2⟩ := hi
  exact ⟨s'', h1, h.trans h2⟩
theorem CallQ.of {c : Call} {g : FuncId} {cs : List CV} {r : CV} (h1 : callArgs s c = some (g, cs)) (h2 : trees cs = true) (h3 : PureCall P g cs r) : CallQ P s c r := ⟨g, cs, h1, .inl ⟨h2, h3⟩⟩
theorem CallQ.lent {c : Call} {g : FuncId} {cs ds : List CV} {r : CV} (h1 : callArgs s c = some (g, cs)) (h2 : lends s cs = some ds) (h3 : PureCall P g ds r) (h4 : scalar r = true) : CallQ P s c r := ⟨g, cs, h1, .inr ⟨ds, h2, h3, h4⟩⟩
end

/-! ### Encoders -/
abbrev I64 (n : Int) : CV := .int .i64 n
def ints (l : List Int) : CV := .tsl (l.map I64) l.length
def bools (l : List Bool) : CV := .tsl (l.map CV.bool) l.length
def intss (l : List (List Int)) : CV := .tsl (l.map ints) l.length
def boolss (l : List (List Bool)) : CV := .tsl (l.map bools) l.length

theorem noRefs_eq (o : Nat) (cs : List CV) : noRefs o cs = cs.all (noRef o) := by
  induction cs with
  | nil => rfl
  | cons c cs ih => simp [noRefs, ih]
theorem refsLts_eq (n : Nat) (cs : List CV) : refsLts n cs = cs.all (refsLt n) := by
  induction cs with
  | nil => rfl
  | cons c cs ih => simp [refsLts, ih]
theorem trees_eq (cs : List CV) : trees cs = cs.all tree := by
  induction cs with
  | nil => rfl
  | cons c cs ih => simp [trees, ih]
theorem frzVs_eq (o : Nat) (cells : List CV) (sz : Nat) (cs : List CV) : frzVs o cells sz cs = cs.map (frzV o cells sz) := by
  induction cs with
  | nil => rfl
  | cons c cs ih => simp [frzVs, ih]
theorem scalars_eq (cs : List CV) : scalars cs = cs.all scalar := by
  induction cs with
  | nil => rfl
  | cons c cs ih => simp [scalars, ih]

theorem I64_def (n : Int) : I64 n = .int .i64 n := rfl
theorem frz_ints (o : Nat) (c : List CV) (z : Nat) (l : List Int) : frzV o c z (ints l) = ints l := rfl
theorem frz_bools (o : Nat) (c : List CV) (z : Nat) (l : List Bool) : frzV o c z (bools l) = bools l := rfl
theorem frz_intss (o : Nat) (c : List CV) (z : Nat) (l : List (List Int)) : frzV o c z (intss l) = intss l := rfl
theorem frz_boolss (o : Nat) (c : List CV) (z : Nat) (l : List (List Bool)) : frzV o c z (boolss l) = boolss l := rfl
theorem frz_c_ints (o : Nat) (c : List CV) (z : Nat) : frzV o c z ∘ ints = ints := rfl
theorem frz_c_bools (o : Nat) (c : List CV) (z : Nat) : frzV o c z ∘ bools = bools := rfl
theorem frz_c_I64 (o : Nat) (c : List CV) (z : Nat) : frzV o c z ∘ I64 = I64 := rfl
theorem frz_c_bool (o : Nat) (c : List CV) (z : Nat) : frzV o c z ∘ CV.bool = CV.bool := rfl
theorem noRef_ints (o : Nat) (l : List Int) : noRef o (ints l) = true := rfl
theorem noRef_bools (o : Nat) (l : List Bool) : noRef o (bools l) = true := rfl
theorem noRef_intss (o : Nat) (l : List (List Int)) : noRef o (intss l) = true := rfl
theorem noRef_boolss (o : Nat) (l : List (List Bool)) : noRef o (boolss l) = true := rfl
theorem refsLt_ints (o : Nat) (l : List Int) : refsLt o (ints l) = true := rfl
theorem refsLt_bools (o : Nat) (l : List Bool) : refsLt o (bools l) = true := rfl
theorem refsLt_intss (o : Nat) (l : List (List Int)) : refsLt o (intss l) = true := rfl
theorem refsLt_boolss (o : Nat) (l : List (List Bool)) : refsLt o (boolss l) = true := rfl
theorem tree_ints (l : List Int) : tree (ints l) = true := rfl
theorem tree_bools (l : List Bool) : tree (bools l) = true := rfl
theorem tree_intss (l : List (List Int)) : tree (intss l) = true := rfl
theorem tree_boolss (l : List (List Bool)) : tree (boolss l) = true := rfl
theorem all_true {α : Type} (l : List α) : (l.all fun _ => true) = true := by simp
theorem noRef_c_ints (o : Nat) : noRef o ∘ ints = fun _ => true := rfl
theorem noRef_c_bools (o : Nat) : noRef o ∘ bools = fun _ => true := rfl
theorem noRef_c_I64 (o : Nat) : noRef o ∘ I64 = fun _ => true := rfl
theorem noRef_c_bool (o : Nat) : noRef o ∘ CV.bool = fun _ => true := rfl
theorem refsLt_c_ints (o : Nat) : refsLt o ∘ ints = fun _ => true := rfl
theorem refsLt_c_bools (o : Nat) : refsLt o ∘ bools = fun _ => true := rfl
theorem refsLt_c_I64 (o : Nat) : refsLt o ∘ I64 = fun _ => true := rfl
theorem refsLt_c_bool (o : Nat) : refsLt o ∘ CV.bool = fun _ => true := rfl
theorem tree_c_ints : tree ∘ ints = fun _ => true := rfl
theorem tree_c_bools : tree ∘ bools = fun _ => true := rfl
theorem tree_c_I64 : tree ∘ I64 = fun _ => true := rfl
theorem tree_c_bool : tree ∘ CV.bool = fun _ => true := rfl
theorem isTup_ints (l : List Int) : isTup (ints l) = false := rfl
theorem cells_ints (l : List Int) : (ints l).cells = [ints l] := rfl
theorem isTup_bools (l : List Bool) : isTup (bools l) = false := rfl
theorem cells_bools (l : List Bool) : (bools l).cells = [bools l] := rfl
theorem frz_cc_ints {α : Type} (o : Nat) (c : List CV) (z : Nat) (f : α → List Int) : frzV o c z ∘ ints ∘ f = ints ∘ f := rfl
theorem noRef_cc_ints {α : Type} (o : Nat) (f : α → List Int) : noRef o ∘ ints ∘ f = fun _ => true := rfl
theorem refsLt_cc_ints {α : Type} (o : Nat) (f : α → List Int) : refsLt o ∘ ints ∘ f = fun _ => true := rfl
theorem tree_cc_ints {α : Type} (f : α → List Int) : tree ∘ ints ∘ f = fun _ => true := rfl
theorem frz_cc_bools {α : Type} (o : Nat) (c : List CV) (z : Nat) (f : α → List Bool) : frzV o c z ∘ bools ∘ f = bools ∘ f := rfl
theorem noRef_cc_bools {α : Type} (o : Nat) (f : α → List Bool) : noRef o ∘ bools ∘ f = fun _ => true := rfl
theorem refsLt_cc_bools {α : Type} (o : Nat) (f : α → List Bool) : refsLt o ∘ bools ∘ f = fun _ => true := rfl
theorem tree_cc_bools {α : Type} (f : α → List Bool) : tree ∘ bools ∘ f = fun _ => true := rfl
theorem frz_cc_I64 {α : Type} (o : Nat) (c : List CV) (z : Nat) (f : α → Int) : frzV o c z ∘ I64 ∘ f = I64 ∘ f := rfl
theorem noRef_cc_I64 {α : Type} (o : Nat) (f : α → Int) : noRef o ∘ I64 ∘ f = fun _ => true := rfl
theorem refsLt_cc_I64 {α : Type} (o : Nat) (f : α → Int) : refsLt o ∘ I64 ∘ f = fun _ => true := rfl
theorem tree_cc_I64 {α : Type} (f : α → Int) : tree ∘ I64 ∘ f = fun _ => true := rfl
theorem frz_cc_cvbool {α : Type} (o : Nat) (c : List CV) (z : Nat) (f : α → Bool) : frzV o c z ∘ CV.bool ∘ f = CV.bool ∘ f := rfl
theorem noRef_cc_cvbool {α : Type} (o : Nat) (f : α → Bool) : noRef o ∘ CV.bool ∘ f = fun _ => true := rfl
theorem refsLt_cc_cvbool {α : Type} (o : Nat) (f : α → Bool) : refsLt o ∘ CV.bool ∘ f = fun _ => true := rfl
theorem tree_cc_cvbool {α : Type} (f : α → Bool) : tree ∘ CV.bool ∘ f = fun _ => true := rfl
theorem frz_cc_intss {α : Type} (o : Nat) (c : List CV) (z : Nat) (f : α → List (List Int)) : frzV o c z ∘ intss ∘ f = intss ∘ f := rfl
theorem noRef_cc_intss {α : Type} (o : Nat) (f : α → List (List Int)) : noRef o ∘ intss ∘ f = fun _ => true := rfl
theorem refsLt_cc_intss {α : Type} (o : Nat) (f : α → List (List Int)) : refsLt o ∘ intss ∘ f = fun _ => true := rfl
theorem tree_cc_intss {α : Type} (f : α → List (List Int)) : tree ∘ intss ∘ f = fun _ => true := rfl
attribute [simp] frz_cc_ints noRef_cc_ints refsLt_cc_ints tree_cc_ints frz_cc_bools noRef_cc_bools refsLt_cc_bools tree_cc_bools frz_cc_I64 noRef_cc_I64 refsLt_cc_I64 tree_cc_I64 frz_cc_cvbool noRef_cc_cvbool refsLt_cc_cvbool tree_cc_cvbool frz_cc_intss noRef_cc_intss refsLt_cc_intss tree_cc_intss
attribute [simp] frz_ints frz_bools frz_intss frz_boolss frz_c_ints frz_c_bools frz_c_I64 frz_c_bool noRef_ints noRef_bools noRef_intss noRef_boolss refsLt_ints refsLt_bools refsLt_intss refsLt_boolss
attribute [simp] tree_ints tree_bools tree_intss tree_boolss noRef_c_ints noRef_c_bools noRef_c_I64 noRef_c_bool refsLt_c_ints refsLt_c_bools refsLt_c_I64 refsLt_c_bool tree_c_ints tree_c_bools tree_c_I64 tree_c_bool
attribute [simp] isTup_ints cells_ints isTup_bools cells_bools
@[simp] theorem isTup_k_int (k : IntKind) (n : Int) : isTup (.int k n : CV) = false := rfl
@[simp] theorem cells_k_int (k : IntKind) (n : Int) : CV.cells (.int k n : CV) = [(.int k n : CV)] := rfl
@[simp] theorem isTup_k_bool (b : Bool) : isTup (.bool b : CV) = false := rfl
@[simp] theorem cells_k_bool (b : Bool) : CV.cells (.bool b : CV) = [(.bool b : CV)] := rfl
@[simp] theorem isTup_k_str (b : ByteArray) : isTup (.str b : CV) = false := rfl
@[simp] theorem cells_k_str (b : ByteArray) : CV.cells (.str b : CV) = [(.str b : CV)] := rfl
@[simp] theorem isTup_k_tsl (cs : List CV) (n : Nat) : isTup (.tsl cs n : CV) = false := rfl
@[simp] theorem cells_k_tsl (cs : List CV) (n : Nat) : CV.cells (.tsl cs n : CV) = [(.tsl cs n : CV)] := rfl
@[simp] theorem isTup_k_nilsl  : isTup (.nilsl : CV) = false := rfl
@[simp] theorem cells_k_nilsl  : CV.cells (.nilsl : CV) = [(.nilsl : CV)] := rfl
@[simp] theorem isTup_k_tptr (cs : List CV) : isTup (.tptr cs : CV) = false := rfl
@[simp] theorem cells_k_tptr (cs : List CV) : CV.cells (.tptr cs : CV) = [(.tptr cs : CV)] := rfl
@[simp] theorem isTup_k_nilptr  : isTup (.nilptr : CV) = false := rfl
@[simp] theorem cells_k_nilptr  : CV.cells (.nilptr : CV) = [(.nilptr : CV)] := rfl
@[simp] theorem isTup_k_fn (f : FuncId) (cs : List CV) : isTup (.fn f cs : CV) = false := rfl
@[simp] theorem cells_k_fn (f : FuncId) (cs : List CV) : CV.cells (.fn f cs : CV) = [(.fn f cs : CV)] := rfl
@[simp] theorem isTup_k_nilfn  : isTup (.nilfn : CV) = false := rfl
@[simp] theorem cells_k_nilfn  : CV.cells (.nilfn : CV) = [(.nilfn : CV)] := rfl
@[simp] theorem isTup_k_osl (o f n : Nat) : isTup (.osl o f n : CV) = false := rfl
@[simp] theorem cells_k_osl (o f n : Nat) : CV.cells (.osl o f n : CV) = [(.osl o f n : CV)] := rfl
@[simp] theorem isTup_k_optr (o f : Nat) : isTup (.optr o f : CV) = false := rfl
@[simp] theorem cells_k_optr (o f : Nat) : CV.cells (.optr o f : CV) = [(.optr o f : CV)] := rfl
@[simp] theorem isTup_k_agg (cs : List CV) : isTup (.agg cs) = false := rfl
@[simp] theorem cells_k_agg (cs : List CV) : CV.cells (.agg cs) = cs := rfl
@[simp] theorem isTup_k_tup (cs : List CV) : isTup (.tup cs) = true := rfl
@[simp] theorem cells_k_tup (cs : List CV) : CV.cells (.tup cs) = [.tup cs] := rfl
@[simp] theorem isTup_intss (l : List (List Int)) : isTup (intss l) = false := rfl
@[simp] theorem cells_intss (l : List (List Int)) : (intss l).cells = [intss l] := rfl
@[simp] theorem isTup_boolss (l : List (List Bool)) : isTup (boolss l) = false := rfl
@[simp] theorem cells_boolss (l : List (List Bool)) : (boolss l).cells = [boolss l] := rfl
attribute [simp] noRefs_eq refsLts_eq trees_eq frzVs_eq scalars_eq
attribute [simp] noRef refsLt tree frzV scalar one
attribute [simp] assoc dele upd St.put St.del ev evs constCV constCV1 constCVs
attribute [simp] guardV gstep stepOp stepB qval dstOk hstep isCall guardS goL goH okS stepL_nil stepL_cons
attribute [simp] cbinT cbin arith cun cbuiltin clen tdAt cfoldI imin imax cnilEq
attribute [simp] cindex cindexv memAt cload TI.agg cstore St.new cmake calloc cbox cbuildSlice cparts cfieldAddr cfield cslice cbound cbuild cplaces
attribute [simp] cappend cells? ccopy czeros_one
attribute [simp] callArgs lend lends enter cresults cresL cres1 oneOrTup pick St.trim trimOk St.frz frzE frzH St.own
attribute [simp] cput cfill cclear
attribute [simp] List.head?_drop
end Go.Can
