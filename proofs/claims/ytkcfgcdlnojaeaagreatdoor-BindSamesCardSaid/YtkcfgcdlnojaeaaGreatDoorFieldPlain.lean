/-
  Plain facts on fields: the tokens of a field's values, one behind the other.
-/
import Derived.Test.YtkcfgcdlnojaeaaGreatDoorDChains
import Derived.Test.YtkcfgcdlnojaeaaGreatDoorOpenField
namespace Go.Proofs.YtkcfgcdlnojaeaaGreatDoor.FieldPlain
set_option maxRecDepth 100000
open Go.PlainAid WordPlain ChainPlain NumPlain OfAny OpenField

structure Val where
  nm : ByteArray
  text : ByteArray
instance : Inhabited Val := ⟨⟨ByteArray.empty, ByteArray.empty⟩⟩
def valC (v : Val) : List Value := [.string v.nm, .string v.text]
def valCells : List Val → List Value
  | [] => []
  | v :: r => valC v ++ valCells r
theorem valCells_len : ∀ l : List Val, (valCells l).length = l.length * 2
  | [] => rfl
  | v :: r => by simp only [valCells, List.length_append, valCells_len r, valC, List.length_cons, List.length_nil]; omega
theorem valCells_at : ∀ (l : List Val) (k j : Nat) (v : Val), l[k]? = some v → j < 2 → (valCells l)[k * 2 + j]? = (valC v)[j]?
  | [], _, _, _, h, _ => by simp at h
  | x :: r, 0, j, v, h, hj => by
    simp only [List.getElem?_cons_zero, Option.some.injEq] at h
    subst h
    simp only [valCells]
    rw [List.getElem?_append_left (by simp [valC]; omega)]
    simp
  | x :: r, k + 1, j, v, h, hj => by
    simp only [List.getElem?_cons_succ] at h
    simp only [valCells]
    rw [List.getElem?_append_right (by simp [valC]; omega), ← valCells_at r k j v h hj]
    congr 1
    simp [valC]; omega

def fldCells : List Fld → List Value
  | [] => []
  | f :: r => fldC f ++ fldCells r
theorem fldCells_len : ∀ l : List Fld, (fldCells l).length = l.length * 5
  | [] => rfl
  | v :: r => by simp only [fldCells, List.length_append, fldCells_len r, fldC, List.length_cons, List.length_nil]; omega
theorem fldCells_at : ∀ (l : List Fld) (k j : Nat) (v : Fld), l[k]? = some v → j < 5 → (fldCells l)[k * 5 + j]? = (fldC v)[j]?
  | [], _, _, _, h, _ => by simp at h
  | x :: r, 0, j, v, h, hj => by
    simp only [List.getElem?_cons_zero, Option.some.injEq] at h
    subst h
    simp only [fldCells]
    rw [List.getElem?_append_left (by simp [fldC]; omega)]
    simp
  | x :: r, k + 1, j, v, h, hj => by
    simp only [List.getElem?_cons_succ] at h
    simp only [fldCells]
    rw [List.getElem?_append_right (by simp [fldC]; omega), ← fldCells_at r k j v h hj]
    congr 1
    simp [fldC]; omega

/-- A token of value i, behind what is ahead. -/
def shT (i : Nat) (b : Int) (t : Tok) : Tok := ⟨t.text, i, t.pos + b, t.start, t.stop⟩
def ofF (f : Fld) (s : ByteArray) : List Tok := ofT f.kd f.fold f.stop f.stem s
/-- How many places a value takes. -/
def wordsN (f : Fld) (s : ByteArray) : Nat := if f.kd = 1 then (words s).length else 1

/-- The tokens of the first k values, and how many places they took. -/
def fst (f : Fld) (vs : List Val) : Nat → List Tok × Nat
  | 0 => ([], 0)
  | k + 1 =>
    match vs[k]? with
    | none => fst f vs k
    | some v => if v.nm = f.nm then ((fst f vs k).1 ++ (ofF f v.text).map (shT k (fst f vs k).2), (fst f vs k).2 + (wordsN f v.text + 16)) else fst f vs k
theorem fst_yes {f : Fld} {vs : List Val} {k : Nat} {v : Val} (h : vs[k]? = some v) (hn : v.nm = f.nm) :
    fst f vs (k + 1) = ((fst f vs k).1 ++ (ofF f v.text).map (shT k (fst f vs k).2), (fst f vs k).2 + (wordsN f v.text + 16)) := by
  rw [fst, h]; simp only; rw [if_pos hn]
theorem fst_no {f : Fld} {vs : List Val} {k : Nat} {v : Val} (h : vs[k]? = some v) (hn : v.nm ≠ f.nm) : fst f vs (k + 1) = fst f vs k := by
  rw [fst, h]; simp only; rw [if_neg hn]

/-- The tokens of a field in a document. -/
def fieldT (fs : List Fld) (i : Int) (vs : List Val) : List Tok :=
  if 0 ≤ i ∧ i < fs.length then (match fs[i.toNat]? with | some f => (fst f vs vs.length).1 | none => []) else []
theorem field_out {fs : List Fld} {i : Int} {vs : List Val} (h : ¬ (0 ≤ i ∧ i < fs.length)) : fieldT fs i vs = [] := by unfold fieldT; rw [if_neg h]
theorem field_in {fs : List Fld} {k : Nat} {f : Fld} {vs : List Val} (h : fs[k]? = some f) : fieldT fs k vs = (fst f vs vs.length).1 := by
  have hk := (List.getElem?_eq_some_iff.1 h).1
  unfold fieldT; rw [if_pos (by omega)]
  simp [h]

/-- How much the values hold. -/
def vsum : List Val → Nat
  | [] => 0
  | v :: r => v.nm.size + v.text.size + 3 + vsum r
theorem vsum_append (a b : List Val) : vsum (a ++ b) = vsum a + vsum b := by
  induction a with
  | nil => simp [vsum]
  | cons v r ih => simp only [List.cons_append, vsum, ih]; omega
theorem vsum_take {vs : List Val} {k : Nat} {v : Val} (h : vs[k]? = some v) : vsum (vs.take (k + 1)) = vsum (vs.take k) + (v.nm.size + v.text.size + 3) := by
  rw [take_succ_ h, vsum_append]; simp [vsum]
theorem vsum_take_le (vs : List Val) (k : Nat) : vsum (vs.take k) ≤ vsum vs := by
  conv => rhs; rw [← List.take_append_drop k vs, vsum_append]
  omega
theorem vsum_len (vs : List Val) : vs.length * 3 ≤ vsum vs := by
  induction vs with
  | nil => simp [vsum]
  | cons v r ih => simp only [vsum, List.length_cons]; omega
theorem vsum_text {vs : List Val} {k : Nat} {v : Val} (h : vs[k]? = some v) : v.text.size + 3 ≤ vsum vs := by
  have := vsum_take h
  have := vsum_take_le vs (k + 1)
  omega

theorem wordsN_le (f : Fld) (s : ByteArray) : wordsN f s ≤ s.size + 1 := by
  unfold wordsN; split
  · exact words_len s
  · omega
theorem ofF_len (f : Fld) (s : ByteArray) : (ofF f s).length ≤ s.size + 1 := of_len _ _ _ _ _

theorem fst_len (f : Fld) (vs : List Val) (k : Nat) (hk : k ≤ vs.length) : (fst f vs k).1.length ≤ vsum (vs.take k) := by
  induction k with
  | zero => simp [fst]
  | succ k ih =>
    obtain ⟨v, hv⟩ : ∃ v, vs[k]? = some v := ⟨_, List.getElem?_eq_getElem (by omega)⟩
    have h1 := vsum_take hv
    have h2 := ih (by omega)
    have h3 := ofF_len f v.text
    by_cases hn : v.nm = f.nm
    · rw [fst_yes hv hn]; simp only [List.length_append, List.length_map]; omega
    · rw [fst_no hv hn]; omega
theorem fst_base (f : Fld) (vs : List Val) (k : Nat) (hk : k ≤ vs.length) : (fst f vs k).2 ≤ 17 * vsum (vs.take k) := by
  induction k with
  | zero => simp [fst]
  | succ k ih =>
    obtain ⟨v, hv⟩ : ∃ v, vs[k]? = some v := ⟨_, List.getElem?_eq_getElem (by omega)⟩
    have h1 := vsum_take hv
    have h2 := ih (by omega)
    have h3 := wordsN_le f v.text
    by_cases hn : v.nm = f.nm
    · rw [fst_yes hv hn]; simp only; omega
    · rw [fst_no hv hn]; omega

/-- Words are numbered through. -/
theorem wst_pos (s : ByteArray) : ∀ k (n : Nat) (t : Tok), (wst s k).1[n]? = some t → t.pos = n := by
  intro k
  induction k with
  | zero => intro n t h; simp [wst] at h
  | succ k ih =>
    intro n t h
    cases hi : inW s k <;> cases h2 : (wst s k).2
    · rw [wst_out_none hi h2] at h; exact ih n t h
    · rw [wst_out_some hi h2] at h
      simp only at h
      rcases Nat.lt_trichotomy n (wst s k).1.length with hn | hn | hn
      · rw [List.getElem?_append_left hn] at h; exact ih n t h
      · rw [hn, List.getElem?_append_right (Nat.le_refl _), Nat.sub_self] at h
        simp only [List.getElem?_cons_zero, Option.some.injEq] at h
        subst h; exact congrArg _ hn.symm
      · rw [List.getElem?_eq_none (by simp; omega)] at h; cases h
    · rw [wst_in_none hi h2] at h; exact ih n t h
    · rw [wst_in_some hi h2] at h; exact ih n t h
theorem words_pos {s : ByteArray} {n : Nat} {t : Tok} (h : (words s)[n]? = some t) : t.pos = n := wst_pos s _ n t h
theorem ofF_pos {f : Fld} {s : ByteArray} {t : Tok} (h : t ∈ ofF f s) : 0 ≤ t.pos ∧ t.pos ≤ s.size + 1 := by
  unfold ofF ofT at h
  split at h
  · unfold textT passed at h
    obtain ⟨u, hu, hp⟩ := List.mem_filterMap.1 h
    obtain ⟨n, hn, e⟩ := List.getElem_of_mem hu
    have := words_pos (s := s) (n := n) (t := u) (by rw [List.getElem?_eq_getElem hn, e])
    have hl := words_len s
    unfold passT at hp
    split at hp
    · obtain rfl := Option.some.inj hp
      simp only [withT]; omega
    · cases hp
  · split at h
    · split at h
      · obtain rfl := List.mem_singleton.1 h; simp [loneT]; omega
      · cases h
    · split at h
      · split at h
        · obtain rfl := List.mem_singleton.1 h; simp [loneT]; omega
        · cases h
      · cases h
theorem map_at {f : Fld} {s : ByteArray} {k i : Nat} {b : Int} {t : Tok} (h : (ofF f s)[k]? = some t) : ((ofF f s).map (shT i b)).take (k + 1) = ((ofF f s).map (shT i b)).take k ++ [shT i b t] :=
  take_succ_ (by rw [List.getElem?_map, h]; rfl)
end Go.Proofs.YtkcfgcdlnojaeaaGreatDoor.FieldPlain
