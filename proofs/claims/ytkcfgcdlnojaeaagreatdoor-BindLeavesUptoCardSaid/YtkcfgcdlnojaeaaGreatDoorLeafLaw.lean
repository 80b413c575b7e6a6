/-
  Bind over a leaf is what the law's leafOf makes of its text.
-/
import Derived.Test.YtkcfgcdlnojaeaaGreatDoorBindAny
import Derived.Test.YtkcfgcdlnojaeaaGreatDoorLeafOf
import Derived.Test.YtkcfgcdlnojaeaaGreatDoorBindLeaf1E
import Derived.Test.YtkcfgcdlnojaeaaGreatDoorBindLeaf1F
import Derived.Test.YtkcfgcdlnojaeaaGreatDoorBindLeaf2F
import Derived.Test.YtkcfgcdlnojaeaaGreatDoorBindLeaf7E
import Derived.Test.YtkcfgcdlnojaeaaGreatDoorBindLeaf7N
set_option linter.unusedVariables false
set_option linter.unusedSimpArgs false
namespace Go.Proofs.YtkcfgcdlnojaeaaGreatDoor.LeafLaw
set_option maxRecDepth 100000
set_option linter.unusedSectionVars false
open Go.RowKit Go.PlainAid Base Query BindBase NodeTerm NodeLeaf Binder WordPlain WordsWalk StopsWalk OfText OfAny WordsOne NumPlain OpenField FieldPlain GoodName SchemaCheck WordsAny WordsMany SchFind LeafBase LeafOf BindAny

/-- What a text is over a field: nothing, a term, a phrase. -/
def leafQ (f : Fld) (at_ n : Int) (T : ByteArray) : Qry :=
  if f.kd = 2 then (if T.size = 0 ∨ 64 < T.size then noneQ else termQ at_ T)
  else if f.kd = 3 then (match parseN T with | none => noneQ | some v => termQ at_ (termN v))
  else match ofT f.kd f.fold f.stop f.stem T with
    | [] => noneQ
    | [t] => termQ at_ t.text
    | t :: u :: r => phraseQ at_ n (t :: u :: r)
theorem words_leaf (f : Fld) (at_ n : Int) (T : ByteArray) : (if (wordsQ f at_ n T).2 then (wordsQ f at_ n T).1 else noneQ) = leafQ f at_ n T := by
  unfold wordsQ leafQ
  by_cases h2 : f.kd = 2
  · rw [if_pos h2, if_pos h2]; rfl
  by_cases h3 : f.kd = 3
  · rw [if_neg h2, if_neg h2, if_pos h3, if_pos h3]; rfl
  rw [if_neg h2, if_neg h2, if_neg h3, if_neg h3]
  match ofT f.kd f.fold f.stop f.stem T with
  | [] => rfl
  | [t] => rfl
  | t :: u :: r => rfl
theorem leaf_any (f : Fld) (at_ n : Int) (T : ByteArray) (w : World) (hat : fitI at_) (hn : fitI n) (hs : T.size ≤ 1048576) (ht : Tab w) (h0 : 3 < w.heap.size) :
    Calls Tryz.prog 34 #[.agg #[.string f.nm, .int .i64 f.kd, .bool f.fold, .bool f.stop, .bool f.stem], .int .i64 at_, .string T, .int .i64 n] w (IsA (leafQ f at_ n T) w) := by
  obtain ⟨nm, kd, a, b, c⟩ := f
  unfold leafQ
  simp only
  by_cases h2 : kd = 2
  · subst h2
    rw [if_pos rfl]
    exact leaf_key at_ n T nm a b c w hat hs
  by_cases h3 : kd = 3
  · subst h3
    rw [if_neg (by decide), if_pos rfl]
    exact leaf_num at_ n T nm a b c w hat hs
  rw [if_neg h2, if_neg h3]
  exact leaf_toks kd at_ n T nm a b c w hat hs hn h2 h3 ht h0

theorem good_name : ∀ {fs : List Fld} {seen : List ByteArray} {f : Fld}, goodFrom seen fs = true → f ∈ fs → nameB f.nm = true ∧ f.nm ∉ seen
  | g :: r, seen, f, h, hf => by
    simp only [goodFrom, Bool.and_eq_true, Bool.not_eq_true'] at h
    obtain ⟨⟨h1, h2⟩, h3⟩ := h
    rcases List.mem_cons.1 hf with rfl | hf
    · refine ⟨by unfold fldB at h2; exact (Bool.and_eq_true _ _ ▸ h2).1, fun hm => ?_⟩
      have := List.any_eq_true (p := fun x => decide (x = f.nm)) |>.2 ⟨_, hm, decide_eq_true rfl⟩
      rw [h1] at this
      cases this
    · obtain ⟨i1, i2⟩ := good_name h3 hf
      exact ⟨i1, fun hm => i2 (List.mem_append.2 (.inl hm))⟩
theorem find_good : ∀ {fs : List Fld} {seen : List ByteArray} {k j : Nat} {f : Fld}, goodFrom seen fs = true → fs[j]? = some f → findF f.nm fs k = some (k + j)
  | g :: r, seen, k, 0, f, h, hf => by
    obtain rfl : g = f := by simpa using hf
    unfold findF
    rw [if_pos rfl]
    rfl
  | g :: r, seen, k, j + 1, f, h, hf => by
    simp only [goodFrom, Bool.and_eq_true, Bool.not_eq_true'] at h
    obtain ⟨⟨h1, h2⟩, h3⟩ := h
    have hf' : r[j]? = some f := by simpa using hf
    have hne : g.nm ≠ f.nm := fun e => (good_name h3 (List.mem_of_getElem? hf')).2 (by rw [← e]; simp)
    unfold findF
    rw [if_neg hne, find_good h3 hf']
    congr 1
    omega
theorem find_self {fs : List Fld} {j : Nat} {f : Fld} (h : schemaB fs = true) (hf : fs[j]? = some f) : findS fs f.nm = some j ∧ f.nm.size ≠ 0 := by
  unfold schemaB at h
  rw [Bool.and_eq_true] at h
  refine ⟨by have := find_good (k := 0) h.2 hf; rwa [Nat.zero_add] at this, ?_⟩
  have := (good_name h.2 (List.mem_of_getElem? hf)).1
  unfold nameB at this
  simp only [Bool.and_eq_true, decide_eq_true_eq] at this
  omega
theorem find_none : ∀ {fs : List Fld} {nm : ByteArray} {k : Nat}, (∀ f ∈ fs, f.nm ≠ nm) → findF nm fs k = none
  | [], _, _, _ => rfl
  | f :: r, nm, k, h => by
    unfold findF
    rw [if_neg (h f (by simp)), find_none fun g hg => h g (by simp [hg])]

theorem fs_len {fs : List Fld} (h : schemaB fs = true) : fs.length ≤ 16 := by
  unfold schemaB at h
  rw [Bool.and_eq_true, Bool.and_eq_true] at h
  exact of_decide_eq_true h.1.2

section
variable (fs : List Fld) (fg fo c : Nat) (ev : Value) (B : Nat) (w : World) (hBw : B ≤ w.heap.size) (hgood : schemaB fs = true) (h1 : Slc w B (some ⟨fg, fo, none⟩) (fldCells fs))
    (he : w.cell? ⟨0, 0, none⟩ = some ev) (h0 : 3 < w.heap.size) (hnm : ∀ f ∈ fs, f.nm.size ≤ 9223372036854775807) (ht : Tab w)
include hBw hgood h1 he h0 hnm ht

theorem bind_phrase (ha : Ask2 w) (j : Nat) (f : Fld) (hf : fs[j]? = some f) (T : ByteArray) (n : Int) (hn : 0 ≤ n ∧ n ≤ 999999999) (hs : T.size ≤ 1048576) :
    Calls Tryz.prog 16 #[.agg #[.slice (some ⟨fg, fo, none⟩) fs.length c], .agg (nodeK 2 f.nm T n)] w (IsE (leafQ f j n T) w) := by
  have hl := fs_len hgood
  have hj : j < fs.length := (List.getElem?_eq_some_iff.1 hf).1
  have hat : fitI (j : Int) := fit_of (by omega) (by omega)
  have hfn : fitI n := fit_of (by omega) (by omega)
  obtain ⟨k1, k2⟩ := find_self hgood hf
  rw [← words_leaf]
  exact bind_any 2 n f.nm T _ _ fs fg fo c ev B w hBw hgood h1 he (by omega) hnm
    (fun W hW => checkNode_phrase f.nm T n W hn (ha.below hW (by show 2 < _; omega)) (by show 2 < _; have := hW.size; omega))
    (fun W hW g hB => BindLeaf2F.bind_leaf T n f.nm k2 fs f.nm f.kd f.fold f.stop f.stem fg fo c g B W _ _ (Nat.le_trans hBw hW.size) (h1.below hW hBw) (by omega) j k1 hf hB
      (fun W2 hW2 => words_any 2 n j f.nm T f W2 hat hfn hs (tab_below ht (bchain hW hW2) h0) (Nat.lt_of_lt_of_le h0 (bchain hW hW2).size)))
theorem bind_named (ha : Ask1 w) (j : Nat) (f : Fld) (hf : fs[j]? = some f) (T : ByteArray) (hT : T.toList ≠ []) (hs : T.size ≤ 1048576) :
    Calls Tryz.prog 16 #[.agg #[.slice (some ⟨fg, fo, none⟩) fs.length c], .agg (nodeK 1 f.nm T 0)] w (IsE (leafQ f j 0 T) w) := by
  have hl := fs_len hgood
  have hj : j < fs.length := (List.getElem?_eq_some_iff.1 hf).1
  have hat : fitI (j : Int) := fit_of (by omega) (by omega)
  obtain ⟨k1, k2⟩ := find_self hgood hf
  rw [← words_leaf]
  exact bind_any 1 0 f.nm T _ _ fs fg fo c ev B w hBw hgood h1 he (by omega) hnm
    (fun W hW => checkNode_term f.nm T W hT (ha.below hW (by show 2 < _; omega)) (by show 2 < _; have := hW.size; omega))
    (fun W hW g hB => BindLeaf1F.bind_leaf T f.nm k2 fs f.nm f.kd f.fold f.stop f.stem fg fo c g B W _ _ (Nat.le_trans hBw hW.size) (h1.below hW hBw) (by omega) j k1 hf hB
      (fun W2 hW2 => words_any 1 0 j f.nm T f W2 hat rfl hs (tab_below ht (bchain hW hW2) h0) (Nat.lt_of_lt_of_le h0 (bchain hW hW2).size)))
theorem bind_plain (ha : Ask1 w) (f : Fld) (hf : fs[0]? = some f) (T : ByteArray) (hT : T.toList ≠ []) (hs : T.size ≤ 1048576) :
    Calls Tryz.prog 16 #[.agg #[.slice (some ⟨fg, fo, none⟩) fs.length c], .agg (nodeK 1 ⟨#[]⟩ T 0)] w (IsE (leafQ f 0 0 T) w) := by
  have hl := fs_len hgood
  rw [← words_leaf]
  exact bind_any 1 0 ⟨#[]⟩ T _ _ fs fg fo c ev B w hBw hgood h1 he (by omega) hnm
    (fun W hW => checkNode_term ⟨#[]⟩ T W hT (ha.below hW (by show 2 < _; omega)) (by show 2 < _; have := hW.size; omega))
    (fun W hW g hB => BindLeaf1E.bind_leaf T fs f.nm f.kd f.fold f.stop f.stem fg fo c g B W _ _ (Nat.le_trans hBw hW.size) (h1.below hW hBw) (by omega) hf hB
      (fun W2 hW2 => words_any 1 0 0 ⟨#[]⟩ T f W2 rfl rfl hs (tab_below ht (bchain hW hW2) h0) (Nat.lt_of_lt_of_le h0 (bchain hW hW2).size)))
theorem bind_hasE (ha : Ask7 w) (f : Fld) (hf : fs[0]? = some f) :
    Calls Tryz.prog 16 #[.agg #[.slice (some ⟨fg, fo, none⟩) fs.length c], .agg (nodeK 7 ⟨#[]⟩ ⟨#[]⟩ 0)] w (IsE (hasQ 0) w) := by
  have hl := fs_len hgood
  exact bind_any 7 0 ⟨#[]⟩ ⟨#[]⟩ (hasQ 0) true fs fg fo c ev B w hBw hgood h1 he (by omega) hnm
    (fun W hW => checkNode_has ⟨#[]⟩ W (ha.below hW (by show 2 < _; omega)) (by show 2 < _; have := hW.size; omega))
    (fun W hW g hB => BindLeaf7E.bind_leaf fs f.nm f.kd f.fold f.stop f.stem fg fo c g B W _ _ (Nat.le_trans hBw hW.size) (h1.below hW hBw) (by omega) hf hB
      (fun W2 _ => has_any ⟨#[]⟩ f.nm f.kd 0 f.fold f.stop f.stem W2 rfl))
theorem bind_hasN (ha : Ask7 w) (nm : ByteArray) (h0n : nm.size ≠ 0) (hne : ∀ f ∈ fs, f.nm ≠ nm) :
    Calls Tryz.prog 16 #[.agg #[.slice (some ⟨fg, fo, none⟩) fs.length c], .agg (nodeK 7 nm ⟨#[]⟩ 0)] w (IsE noneQ w) := by
  have hl := fs_len hgood
  exact bind_any 7 0 nm ⟨#[]⟩ noneQ true fs fg fo c ev B w hBw hgood h1 he (by omega) hnm
    (fun W hW => checkNode_has nm W (ha.below hW (by show 2 < _; omega)) (by show 2 < _; have := hW.size; omega))
    (fun W hW g hB => BindLeaf7N.bind_leaf nm h0n fs fg fo c g B W (Nat.le_trans hBw hW.size) (h1.below hW hBw) (by omega) (find_none hne) hB)
end
end Go.Proofs.YtkcfgcdlnojaeaaGreatDoor.LeafLaw
