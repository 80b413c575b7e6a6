/-
  What a call of Bind needs of memory; a good schema's names.
-/
import Derived.Test.YtkcfgcdlnojaeaaGreatDoorBindTop
import Derived.Test.YtkcfgcdlnojaeaaGreatDoorDSchema
set_option linter.unusedVariables false
set_option linter.unusedSimpArgs false
namespace Go.Proofs.YtkcfgcdlnojaeaaGreatDoor.MemOf
set_option maxRecDepth 100000
open Go.RowKit Go.PlainAid Base Query BindBase NodeTerm NodeTree NodePlain NodeOwn NodeCheck TermCheck TextPlain WordPlain WordsWalk StopsWalk OfText WordsOne OpenField FieldPlain GoodName SchemaCheck WordsAny WordsMany SchFind LeafBase FoldLeaf TreePlain BindTop

theorem good_name : ∀ {fs : List Fld} {seen : List ByteArray} {f : Fld}, goodFrom seen fs = true → f ∈ fs → nameB f.nm = true ∧ f.nm ∉ seen
  | g :: r, seen, f, h, hf => by
    simp only [goodFrom, Bool.and_eq_true, Bool.not_eq_true'] at h
    obtain ⟨⟨h1, h2⟩, h3⟩ := h
    rcases List.mem_cons.1 hf with rfl | hf
    · refine ⟨by unfold fldB at h2; exact (Bool.and_eq_true _ _ ▸ h2).1, fun hm => ?_⟩
      have := List.any_eq_true (p := fun x => decide (x = f.nm)) |>.2 ⟨_, hm, decide_eq_true rfl⟩
      rw [h1] at this
      cases this
    · obtain ⟨i1, i2⟩ := good_name h3 hf
      exact ⟨i1, fun hm => i2 (List.mem_append.2 (.inl hm))⟩
theorem find_good : ∀ {fs : List Fld} {seen : List ByteArray} {k j : Nat} {f : Fld}, goodFrom seen fs = true → fs[j]? = some f → findF f.nm fs k = some (k + j)
  | g :: r, seen, k, 0, f, h, hf => by
    obtain rfl : g = f := by simpa using hf
    unfold findF
    rw [if_pos rfl]
    rfl
  | g :: r, seen, k, j + 1, f, h, hf => by
    simp only [goodFrom, Bool.and_eq_true, Bool.not_eq_true'] at h
    obtain ⟨⟨h1, h2⟩, h3⟩ := h
    have hf' : r[j]? = some f := by simpa using hf
    have hne : g.nm ≠ f.nm := fun e => (good_name h3 (List.mem_of_getElem? hf')).2 (by rw [← e]; simp)
    unfold findF
    rw [if_neg hne, find_good h3 hf']
    congr 1
    omega
theorem find_self {fs : List Fld} {j : Nat} {f : Fld} (h : schemaB fs = true) (hf : fs[j]? = some f) : findS fs f.nm = some j ∧ f.nm.size ≠ 0 ∧ f.nm.size ≤ 32 := by
  unfold schemaB at h
  rw [Bool.and_eq_true] at h
  refine ⟨by have := find_good (k := 0) h.2 hf; rwa [Nat.zero_add] at this, ?_⟩
  have := (good_name h.2 (List.mem_of_getElem? hf)).1
  unfold nameB at this
  simp only [Bool.and_eq_true, decide_eq_true_eq] at this
  omega

theorem leaf_val (w : World) (B : Nat) (k n : Int) (fn T : ByteArray) (lo hi : Bnd) (hk : (Lit.int .i64 k).wf = true) (hn : (Lit.int .i64 n).wf = true) :
    NVal w B (nodeV k fn T n ⟨lo, hi, none, 0, 0, none, 0, 0⟩).toList (.mk ⟨k, fn, T, n, lo, hi, []⟩ []) :=
  NVal.mk ⟨k, fn, T, n, lo, hi, []⟩ [] none none 0 0 (fun _ => []) ⟨hk, hn, (fun _ h => by cases h), Nat.zero_le _⟩ (Nat.zero_le _) (Slc.nil _) (fun h => absurd rfl h) (fun _ _ h => by cases h)
structure Mem (fs : List Fld) (A : Option Addr) (B0 : Nat) (a1 a2 : Addr) (w : World) : Prop where
  hB0 : B0 ≤ w.heap.size
  h1 : Slc w B0 A (fldCells fs)
  ht : Tab w
  h0 : 3 < w.heap.size
  ha : Asks w
  h2 : 2 < w.heap.size
  he1 : w.cell? ⟨0, 0, none⟩ = some (errV a1)
  h3 : 0 < w.heap.size
  he2 : w.cell? ⟨1, 0, none⟩ = some (errV a2)
  h4 : 1 < w.heap.size
theorem Mem.below {fs : List Fld} {A : Option Addr} {B0 : Nat} {a1 a2 : Addr} {w W : World} (h : Mem fs A B0 a1 a2 w) (hW : Below w.heap.size w W) : Mem fs A B0 a1 a2 W :=
  ⟨Nat.le_trans h.hB0 hW.size, h.h1.below hW h.hB0, tab_below h.ht hW h.h0, Nat.lt_of_lt_of_le h.h0 hW.size, h.ha.below hW h.h2, Nat.lt_of_lt_of_le h.h2 hW.size, (hW.cell (p := ⟨0, 0, none⟩) h.h3).trans h.he1, Nat.lt_of_lt_of_le h.h3 hW.size, (hW.cell (p := ⟨1, 0, none⟩) h.h4).trans h.he2, Nat.lt_of_lt_of_le h.h4 hW.size⟩
theorem ask1_of {w : World} (h : Asks w) : Ask1 w := fun j u hu => h 1 j u (by decide) (by rw [← hu, show ask1 = (askV (askOf 1)).toArray from rfl, List.getElem?_toArray])
end Go.Proofs.YtkcfgcdlnojaeaaGreatDoor.MemOf
