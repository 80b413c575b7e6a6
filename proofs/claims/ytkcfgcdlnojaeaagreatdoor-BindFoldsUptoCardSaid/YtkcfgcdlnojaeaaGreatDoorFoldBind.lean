/-
  bind.Bind over a good leaf and a good schema.
-/
import Derived.Test.YtkcfgcdlnojaeaaGreatDoorBindTop
import Derived.Test.YtkcfgcdlnojaeaaGreatDoorFoldsPlain
set_option linter.unusedVariables false
set_option linter.unusedSimpArgs false
namespace Go.Proofs.YtkcfgcdlnojaeaaGreatDoor.FoldBind
set_option maxRecDepth 100000
open Go.RowKit Go.PlainAid Base Query BindBase NodeTerm NodeTree NodePlain NodeOwn NodeCheck TermCheck TextPlain WordPlain WordsWalk StopsWalk OfText WordsOne OpenField FieldPlain SchemaCheck WordsAny WordsMany LeafBase FoldLeaf WildBind SpanBind LitWalk TreePlain BindTop FoldsPlain

/-- What a call of Bind needs of memory. -/
structure Mem (fs : List Fld) (A : Option Addr) (B0 : Nat) (a1 a2 : Addr) (w : World) : Prop where
  hB0 : B0 ≤ w.heap.size
  h1 : Slc w B0 A (fldCells fs)
  ht : Tab w
  h0 : 3 < w.heap.size
  ha : Asks w
  h2 : 2 < w.heap.size
  he1 : w.cell? ⟨0, 0, none⟩ = some (errV a1)
  h3 : 0 < w.heap.size
  he2 : w.cell? ⟨1, 0, none⟩ = some (errV a2)
  h4 : 1 < w.heap.size
theorem Mem.below {fs : List Fld} {A : Option Addr} {B0 : Nat} {a1 a2 : Addr} {w W : World} (h : Mem fs A B0 a1 a2 w) (hW : Below w.heap.size w W) : Mem fs A B0 a1 a2 W :=
  ⟨Nat.le_trans h.hB0 hW.size, h.h1.below hW h.hB0, tab_below h.ht hW h.h0, Nat.lt_of_lt_of_le h.h0 hW.size, h.ha.below hW h.h2, Nat.lt_of_lt_of_le h.h2 hW.size, (hW.cell (p := ⟨0, 0, none⟩) h.h3).trans h.he1, Nat.lt_of_lt_of_le h.h3 hW.size, (hW.cell (p := ⟨1, 0, none⟩) h.h4).trans h.he2, Nat.lt_of_lt_of_le h.h4 hW.size⟩
theorem bind_leaf (fs : List Fld) (A : Option Addr) (c B0 : Nat) (a1 a2 : Addr) (k n : Int) (fn T : ByteArray) (lo hi : Bnd) (Q : Qry) (w : World) (m : Mem fs A B0 a1 a2 w) (hnm : ∀ f ∈ fs, f.nm.size ≤ 9223372036854775807) (hlen : fs.length ≤ 9223372036854775807)
    (hk : (Lit.int .i64 k).wf = true) (hn : (Lit.int .i64 n).wf = true) (hg : schemaB fs = true) (ho : ownB ⟨k, fn, T, n, lo, hi, []⟩ 0 = true) (hbk : nbulk ⟨k, fn, T, n, lo, hi, []⟩ ≤ 2097152) (hQ : topQ fs (.mk ⟨k, fn, T, n, lo, hi, []⟩ []) = Q) :
    Calls Tryz.prog 16 #[.agg #[.slice A fs.length c], .agg (nodeV k fn T n ⟨lo, hi, none, 0, 0, none, 0, 0⟩)] w (IsT Q .nilIface w) := by
  have h := bindTop_any fs A c (.mk ⟨k, fn, T, n, lo, hi, []⟩ []) _ 0 B0 a1 a2 w (leaf_val w 0 k n fn T lo hi hk hn) (Nat.zero_le _) (by rw [leaf_bulk]; exact hbk) m.hB0 m.h1 hnm hlen m.ht m.h0 m.ha m.h2 m.he1 m.h3 m.he2 m.h4
  unfold bindR bindE at h
  rw [leaf_nod, ho, hg, if_pos ⟨rfl, rfl⟩, if_pos rfl, if_pos rfl, hQ] at h
  exact h
theorem own_prefix {fn T : ByteArray} (h : T.size ≠ 0) : ownB ⟨3, fn, T, 0, bnd0, bnd0, []⟩ 0 = true := by
  simp [ownB, askN, askOf, noEnd, bnd0, h]
  rfl
theorem own_fuzzy {fn T : ByteArray} (h : T.size ≠ 0) : ownB ⟨5, fn, T, 2, bnd0, bnd0, []⟩ 0 = true := by
  simp [ownB, askN, askOf, noEnd, bnd0, h]
  rfl
theorem own_wild {fn T : ByteArray} (h : T.size ≠ 0) : ownB ⟨4, fn, starS T, 0, bnd0, bnd0, []⟩ 0 = true := by
  simp [ownB, askN, askOf, noEnd, bnd0, star_wild T h]
  rfl
theorem own_span {fn : ByteArray} {lo hi : Bnd} (h1 : okEnd lo = true) (h2 : okEnd hi = true) : ownB ⟨6, fn, ⟨#[]⟩, 0, lo, hi, []⟩ 0 = true := by
  simp [ownB, askN, askOf, h1, h2]
  rfl
theorem litS_size (s : ByteArray) : (litS s).size ≤ 2 * s.size := WildBind.litS_size s
section
variable {fs : List Fld} {A : Option Addr} {c B0 j : Nat} {a1 a2 : Addr} {f : Fld} {T hi : ByteArray} {w : World}
theorem bind_prefix (m : Mem fs A B0 a1 a2 w) (hnm : ∀ f ∈ fs, f.nm.size ≤ 9223372036854775807) (hlen : fs.length ≤ 9223372036854775807) (hg : schemaB fs = true) (hf : fs[j]? = some f) (h0 : T.size ≠ 0) (h1 : T.size ≤ 4096) :
    Calls Tryz.prog 16 #[.agg #[.slice A fs.length c], .agg #[.int .i64 3, .string f.nm, .string T, .int .i64 0, .bool false, .bool false, .string ⟨#[]⟩, .bool false, .bool false, .string ⟨#[]⟩, .slice none 0 0, .slice none 0 0]] w (IsT (prefixQ f j T) .nilIface w) :=
  bind_leaf fs A c B0 a1 a2 3 0 f.nm T bnd0 bnd0 _ w m hnm hlen rfl rfl hg (own_prefix h0) (by have := (find_self hg hf).2.2; have e : bnd0.text.size = 0 := rfl; simp only [nbulk, e, List.length_nil]; omega) (top_prefix T hg hf)
theorem bind_fuzzy (m : Mem fs A B0 a1 a2 w) (hnm : ∀ f ∈ fs, f.nm.size ≤ 9223372036854775807) (hlen : fs.length ≤ 9223372036854775807) (hg : schemaB fs = true) (hf : fs[j]? = some f) (h0 : T.size ≠ 0) (h1 : T.size ≤ 4096) :
    Calls Tryz.prog 16 #[.agg #[.slice A fs.length c], .agg #[.int .i64 5, .string f.nm, .string T, .int .i64 2, .bool false, .bool false, .string ⟨#[]⟩, .bool false, .bool false, .string ⟨#[]⟩, .slice none 0 0, .slice none 0 0]] w (IsT (fuzzyQ f j 2 T) .nilIface w) :=
  bind_leaf fs A c B0 a1 a2 5 2 f.nm T bnd0 bnd0 _ w m hnm hlen rfl rfl hg (own_fuzzy h0) (by have := (find_self hg hf).2.2; have e : bnd0.text.size = 0 := rfl; simp only [nbulk, e, List.length_nil]; omega) (top_fuzzy T hg hf)
theorem bind_wild (m : Mem fs A B0 a1 a2 w) (hnm : ∀ f ∈ fs, f.nm.size ≤ 9223372036854775807) (hlen : fs.length ≤ 9223372036854775807) (hg : schemaB fs = true) (hf : fs[j]? = some f) (h0 : T.size ≠ 0) (h1 : T.size ≤ 4096) :
    Calls Tryz.prog 16 #[.agg #[.slice A fs.length c], .agg #[.int .i64 4, .string f.nm, .string (starS T), .int .i64 0, .bool false, .bool false, .string ⟨#[]⟩, .bool false, .bool false, .string ⟨#[]⟩, .slice none 0 0, .slice none 0 0]] w (IsT (wildQ f j (starS T)) .nilIface w) :=
  bind_leaf fs A c B0 a1 a2 4 0 f.nm (starS T) bnd0 bnd0 _ w m hnm hlen rfl rfl hg (own_wild h0) (by have := (find_self hg hf).2.2; have e : bnd0.text.size = 0 := rfl; have := star_size T; have := litF_len T T.size; simp only [nbulk, e, List.length_nil]; omega) (top_wild _ hg hf)
theorem bind_span (m : Mem fs A B0 a1 a2 w) (hnm : ∀ f ∈ fs, f.nm.size ≤ 9223372036854775807) (hlen : fs.length ≤ 9223372036854775807) (hg : schemaB fs = true) (hf : fs[j]? = some f) (h1 : f.nm.size + T.size + hi.size < 2097152) :
    Calls Tryz.prog 16 #[.agg #[.slice A fs.length c], .agg #[.int .i64 6, .string f.nm, .string ⟨#[]⟩, .int .i64 0, .bool false, .bool true, .string T, .bool false, .bool false, .string hi, .slice none 0 0, .slice none 0 0]] w (IsT (spanQ f j ⟨false, true, T⟩ ⟨false, false, hi⟩) .nilIface w) :=
  bind_leaf fs A c B0 a1 a2 6 0 f.nm ⟨#[]⟩ ⟨false, true, T⟩ ⟨false, false, hi⟩ _ w m hnm hlen rfl rfl hg (own_span rfl rfl) (by have e : (⟨#[]⟩ : ByteArray).size = 0 := rfl; simp only [nbulk, e, List.length_nil]; omega) (top_span _ _ hg hf)
end
end Go.Proofs.YtkcfgcdlnojaeaaGreatDoor.FoldBind
