/-
  Plain facts on words: which bytes stand in words; the words of a text; no program in sight.
-/
import Derived.PlainAid
import Derived.WalkKit
namespace Go.Proofs.YtmoahflgcojfcaaDoor.WordPlain
open Go.PlainAid

def dg (x : Int) : Bool := decide (48 ≤ x ∧ x ≤ 57)
def wb (x : Int) : Bool := decide (128 ≤ x ∨ x = 95 ∨ (48 ≤ x ∧ x ≤ 57) ∨ (65 ≤ x ∧ x ≤ 90) ∨ (97 ≤ x ∧ x ≤ 122))

theorem dg_eq {x : Int} {b : Bool} (h : b = true ↔ (48 ≤ x ∧ x ≤ 57)) : b = dg x := by
  unfold dg; rw [Bool.eq_iff_iff, h]; simp
theorem wb_eq {x : Int} {b : Bool} (h : b = true ↔ (128 ≤ x ∨ x = 95 ∨ (48 ≤ x ∧ x ≤ 57) ∨ (65 ≤ x ∧ x ≤ 90) ∨ (97 ≤ x ∧ x ≤ 122))) : b = wb x := by
  unfold wb; rw [Bool.eq_iff_iff, h]; simp
theorem dg_true {x : Int} : dg x = true ↔ (48 ≤ x ∧ x ≤ 57) := by unfold dg; simp
theorem dg_false {x : Int} : dg x = false ↔ ¬ (48 ≤ x ∧ x ≤ 57) := by unfold dg; simp only [decide_eq_false_iff_not]
theorem wb_true {x : Int} : wb x = true ↔ (128 ≤ x ∨ x = 95 ∨ (48 ≤ x ∧ x ≤ 57) ∨ (65 ≤ x ∧ x ≤ 90) ∨ (97 ≤ x ∧ x ≤ 122)) := by unfold wb; simp
theorem wb_false {x : Int} : wb x = false ↔ ¬ (128 ≤ x ∨ x = 95 ∨ (48 ≤ x ∧ x ≤ 57) ∨ (65 ≤ x ∧ x ≤ 90) ∨ (97 ≤ x ∧ x ≤ 122)) := by unfold wb; simp only [decide_eq_false_iff_not]

/-- A mark inside at place i. -/
def mk (s : ByteArray) (i : Nat) : Bool :=
  decide (0 < i ∧ i + 1 < s.size) &&
    ((bt s i == 39 && (wb (bt s (i - 1)) && wb (bt s (i + 1)))) || (bt s i == 46 && (dg (bt s (i - 1)) && dg (bt s (i + 1)))))

/-- Does the byte at place i stand in a word? -/
def inW (s : ByteArray) (i : Nat) : Bool := decide (i < s.size) && (wb (bt s i) || mk s i)

structure Tok where
  text : ByteArray
  value : Int
  pos : Int
  start : Int
  stop : Int

/-- What has been gathered after k bytes: the words, and where the open word begins. -/
def wst (s : ByteArray) : Nat → List Tok × Option Nat
  | 0 => ([], none)
  | k + 1 =>
    match inW s k, (wst s k).2 with
    | true, none => ((wst s k).1, some k)
    | true, some j => ((wst s k).1, some j)
    | false, none => ((wst s k).1, none)
    | false, some j => ((wst s k).1 ++ [⟨s.extract j k, 0, (wst s k).1.length, j, k⟩], none)

def words (s : ByteArray) : List Tok := (wst s (s.size + 1)).1

/-- The open word's start as the slot holds it. -/
def stv : Option Nat → Int
  | none => -1
  | some j => j

theorem wst_in_none {s : ByteArray} {k : Nat} (h : inW s k = true) (h2 : (wst s k).2 = none) : wst s (k + 1) = ((wst s k).1, some k) := by
  conv => lhs; unfold wst
  rw [h, h2]
theorem wst_in_some {s : ByteArray} {k j : Nat} (h : inW s k = true) (h2 : (wst s k).2 = some j) : wst s (k + 1) = ((wst s k).1, some j) := by
  conv => lhs; unfold wst
  rw [h, h2]
theorem wst_out_none {s : ByteArray} {k : Nat} (h : inW s k = false) (h2 : (wst s k).2 = none) : wst s (k + 1) = ((wst s k).1, none) := by
  conv => lhs; unfold wst
  rw [h, h2]
theorem wst_out_some {s : ByteArray} {k j : Nat} (h : inW s k = false) (h2 : (wst s k).2 = some j) :
    wst s (k + 1) = ((wst s k).1 ++ [⟨s.extract j k, 0, (wst s k).1.length, j, k⟩], none) := by
  conv => lhs; unfold wst
  rw [h, h2]

theorem wst_lt (s : ByteArray) : ∀ (k j : Nat), (wst s k).2 = some j → j < k := by
  intro k
  induction k with
  | zero => intro j h; simp [wst] at h
  | succ k ih =>
    intro j h
    cases hi : inW s k <;> cases h2 : (wst s k).2
    · rw [wst_out_none hi h2] at h; simp at h
    · rw [wst_out_some hi h2] at h; simp at h
    · rw [wst_in_none hi h2] at h; simp at h; omega
    · rename_i j'
      rw [wst_in_some hi h2] at h
      simp at h
      have := ih j' h2
      omega

theorem wst_len (s : ByteArray) : ∀ k, (wst s k).1.length ≤ k := by
  intro k
  induction k with
  | zero => simp [wst]
  | succ k ih =>
    cases hi : inW s k <;> cases h2 : (wst s k).2
    · rw [wst_out_none hi h2]; simp; omega
    · rw [wst_out_some hi h2]; simp; omega
    · rw [wst_in_none hi h2]; simp; omega
    · rw [wst_in_some hi h2]; simp; omega

theorem words_len (s : ByteArray) : (words s).length ≤ s.size + 1 := wst_len s _

theorem inW_end (s : ByteArray) (k : Nat) (h : s.size ≤ k) : inW s k = false := by
  unfold inW; simp; omega

theorem mk_false_of {s : ByteArray} {i : Nat} (h : ¬ (0 < i ∧ i + 1 < s.size)) : mk s i = false := by
  unfold mk; simp only [decide_eq_false h, Bool.false_and]
theorem mk_of {s : ByteArray} {i : Nat} (h : 0 < i) (h' : i + 1 < s.size) :
    mk s i = ((bt s i == 39 && (wb (bt s (i - 1)) && wb (bt s (i + 1)))) || (bt s i == 46 && (dg (bt s (i - 1)) && dg (bt s (i + 1))))) := by
  unfold mk; simp [h, h']
theorem mk39 {s : ByteArray} {i : Nat} (h : 0 < i) (h' : i + 1 < s.size) (e : (bt s i == 39) = true) : mk s i = (wb (bt s (i - 1)) && wb (bt s (i + 1))) := by
  rw [mk_of h h']
  have : bt s i = 39 := by simpa using e
  simp [this]
theorem mk46 {s : ByteArray} {i : Nat} (h : 0 < i) (h' : i + 1 < s.size) (e : (bt s i == 46) = true) : mk s i = (dg (bt s (i - 1)) && dg (bt s (i + 1))) := by
  rw [mk_of h h']
  have : bt s i = 46 := by simpa using e
  simp [this]
theorem mkno {s : ByteArray} {i : Nat} (h : 0 < i) (h' : i + 1 < s.size) (e : (bt s i == 39) = false) (e' : (bt s i == 46) = false) : mk s i = false := by
  rw [mk_of h h', e, e']
  rfl

/-- A token's five cells. -/
def tokC (t : Tok) : List Value := [.string t.text, .int .i64 t.value, .int .i64 t.pos, .int .i64 t.start, .int .i64 t.stop]
def tokCells : List Tok → List Value
  | [] => []
  | t :: r => tokC t ++ tokCells r
theorem tokCells_append (a b : List Tok) : tokCells (a ++ b) = tokCells a ++ tokCells b := by
  induction a with
  | nil => rfl
  | cons t r ih => simp [tokCells, ih]
theorem tokCells_len (a : List Tok) : (tokCells a).length = a.length * 5 := by
  induction a with
  | nil => rfl
  | cons t r ih => simp [tokCells, tokC, ih]; omega
theorem tokCells_at (a : List Tok) : ∀ (k : Nat) (t : Tok) (j : Nat), a[k]? = some t → j < 5 → (tokCells a)[k * 5 + j]? = (tokC t)[j]? := by
  induction a with
  | nil => intro k t j h; simp at h
  | cons t r ih =>
    intro k t' j h hj
    cases k with
    | zero =>
      simp at h
      subst h
      show (tokC t ++ tokCells r)[0 * 5 + j]? = _
      rw [List.getElem?_append_left (by simp [tokC]; omega)]
      simp
    | succ k =>
      simp at h
      show (tokC t ++ tokCells r)[(k + 1) * 5 + j]? = _
      rw [List.getElem?_append_right (by simp [tokC]; omega)]
      rw [show (k + 1) * 5 + j - (tokC t).length = k * 5 + j by simp [tokC]; omega]
      exact ih k t' j h hj
end Go.Proofs.YtmoahflgcojfcaaDoor.WordPlain
