/-
  Plain facts on words: which bytes stand in words; the words of a text; no program in sight.
  Plain facts on Fold: bytes as numbers; no program in sight.
  Plain facts on stems: vowels, measure, endings; no program in sight.
  How long the results of the stemmer's steps are; no program in sight.
-/
import Derived.PlainAid
import Derived.WalkKit
set_option linter.unusedVariables false
set_option linter.unusedSimpArgs false
namespace Go.Proofs.YtkcfgcdlnojaeaaGreatDoor.WordPlain
open Go.PlainAid

def dg (x : Int) : Bool := decide (48 ≤ x ∧ x ≤ 57)
def wb (x : Int) : Bool := decide (128 ≤ x ∨ x = 95 ∨ (48 ≤ x ∧ x ≤ 57) ∨ (65 ≤ x ∧ x ≤ 90) ∨ (97 ≤ x ∧ x ≤ 122))

theorem dg_eq {x : Int} {b : Bool} (h : b = true ↔ (48 ≤ x ∧ x ≤ 57)) : b = dg x := by
  unfold dg; rw [Bool.eq_iff_iff, h]; simp
theorem wb_eq {x : Int} {b : Bool} (h : b = true ↔ (128 ≤ x ∨ x = 95 ∨ (48 ≤ x ∧ x ≤ 57) ∨ (65 ≤ x ∧ x ≤ 90) ∨ (97 ≤ x ∧ x ≤ 122))) : b = wb x := by
  unfold wb; rw [Bool.eq_iff_iff, h]; simp
theorem dg_true {x : Int} : dg x = true ↔ (48 ≤ x ∧ x ≤ 57) := by unfold dg; simp
theorem dg_false {x : Int} : dg x = false ↔ ¬ (48 ≤ x ∧ x ≤ 57) := by unfold dg; simp only [decide_eq_false_iff_not]
theorem wb_true {x : Int} : wb x = true ↔ (128 ≤ x ∨ x = 95 ∨ (48 ≤ x ∧ x ≤ 57) ∨ (65 ≤ x ∧ x ≤ 90) ∨ (97 ≤ x ∧ x ≤ 122)) := by unfold wb; simp
theorem wb_false {x : Int} : wb x = false ↔ ¬ (128 ≤ x ∨ x = 95 ∨ (48 ≤ x ∧ x ≤ 57) ∨ (65 ≤ x ∧ x ≤ 90) ∨ (97 ≤ x ∧ x ≤ 122)) := by unfold wb; simp only [decide_eq_false_iff_not]

def mk (s : ByteArray) (i : Nat) : Bool :=
  decide (0 < i ∧ i + 1 < s.size) &&
    ((bt s i == 39 && (wb (bt s (i - 1)) && wb (bt s (i + 1)))) || (bt s i == 46 && (dg (bt s (i - 1)) && dg (bt s (i + 1)))))

def inW (s : ByteArray) (i : Nat) : Bool := decide (i < s.size) && (wb (bt s i) || mk s i)

structure Tok where
  text : ByteArray
  value : Int
  pos : Int
  start : Int
  stop : Int

def wst (s : ByteArray) : Nat → List Tok × Option Nat
  | 0 => ([], none)
  | k + 1 =>
    match inW s k, (wst s k).2 with
    | true, none => ((wst s k).1, some k)
    | true, some j => ((wst s k).1, some j)
    | false, none => ((wst s k).1, none)
    | false, some j => ((wst s k).1 ++ [⟨s.extract j k, 0, (wst s k).1.length, j, k⟩], none)

def words (s : ByteArray) : List Tok := (wst s (s.size + 1)).1

def stv : Option Nat → Int
  | none => -1
  | some j => j

theorem wst_in_none {s : ByteArray} {k : Nat} (h : inW s k = true) (h2 : (wst s k).2 = none) : wst s (k + 1) = ((wst s k).1, some k) := by
  conv => lhs; unfold wst
  rw [h, h2]
theorem wst_in_some {s : ByteArray} {k j : Nat} (h : inW s k = true) (h2 : (wst s k).2 = some j) : wst s (k + 1) = ((wst s k).1, some j) := by
  conv => lhs; unfold wst
  rw [h, h2]
theorem wst_out_none {s : ByteArray} {k : Nat} (h : inW s k = false) (h2 : (wst s k).2 = none) : wst s (k + 1) = ((wst s k).1, none) := by
  conv => lhs; unfold wst
  rw [h, h2]
theorem wst_out_some {s : ByteArray} {k j : Nat} (h : inW s k = false) (h2 : (wst s k).2 = some j) :
    wst s (k + 1) = ((wst s k).1 ++ [⟨s.extract j k, 0, (wst s k).1.length, j, k⟩], none) := by
  conv => lhs; unfold wst
  rw [h, h2]

theorem wst_lt (s : ByteArray) : ∀ (k j : Nat), (wst s k).2 = some j → j < k := by
  intro k
  induction k with
  | zero => intro j h; simp [wst] at h
  | succ k ih =>
    intro j h
    cases hi : inW s k <;> cases h2 : (wst s k).2
    · rw [wst_out_none hi h2] at h; simp at h
    · rw [wst_out_some hi h2] at h; simp at h
    · rw [wst_in_none hi h2] at h; simp at h; omega
    · rename_i j'
      rw [wst_in_some hi h2] at h
      simp at h
      have := ih j' h2
      omega

theorem wst_len (s : ByteArray) : ∀ k, (wst s k).1.length ≤ k := by
  intro k
  induction k with
  | zero => simp [wst]
  | succ k ih =>
    cases hi : inW s k <;> cases h2 : (wst s k).2
    · rw [wst_out_none hi h2]; simp; omega
    · rw [wst_out_some hi h2]; simp; omega
    · rw [wst_in_none hi h2]; simp; omega
    · rw [wst_in_some hi h2]; simp; omega

theorem words_len (s : ByteArray) : (words s).length ≤ s.size + 1 := wst_len s _

theorem inW_end (s : ByteArray) (k : Nat) (h : s.size ≤ k) : inW s k = false := by
  unfold inW; simp; omega

theorem mk_false_of {s : ByteArray} {i : Nat} (h : ¬ (0 < i ∧ i + 1 < s.size)) : mk s i = false := by
  unfold mk; simp only [decide_eq_false h, Bool.false_and]
theorem mk_of {s : ByteArray} {i : Nat} (h : 0 < i) (h' : i + 1 < s.size) :
    mk s i = ((bt s i == 39 && (wb (bt s (i - 1)) && wb (bt s (i + 1)))) || (bt s i == 46 && (dg (bt s (i - 1)) && dg (bt s (i + 1))))) := by
  unfold mk; simp [h, h']
theorem mk39 {s : ByteArray} {i : Nat} (h : 0 < i) (h' : i + 1 < s.size) (e : (bt s i == 39) = true) : mk s i = (wb (bt s (i - 1)) && wb (bt s (i + 1))) := by
  rw [mk_of h h']
  have : bt s i = 39 := by simpa using e
  simp [this]
theorem mk46 {s : ByteArray} {i : Nat} (h : 0 < i) (h' : i + 1 < s.size) (e : (bt s i == 46) = true) : mk s i = (dg (bt s (i - 1)) && dg (bt s (i + 1))) := by
  rw [mk_of h h']
  have : bt s i = 46 := by simpa using e
  simp [this]
theorem mkno {s : ByteArray} {i : Nat} (h : 0 < i) (h' : i + 1 < s.size) (e : (bt s i == 39) = false) (e' : (bt s i == 46) = false) : mk s i = false := by
  rw [mk_of h h', e, e']
  rfl

def tokC (t : Tok) : List Value := [.string t.text, .int .i64 t.value, .int .i64 t.pos, .int .i64 t.start, .int .i64 t.stop]
def tokCells : List Tok → List Value
  | [] => []
  | t :: r => tokC t ++ tokCells r
theorem tokCells_append (a b : List Tok) : tokCells (a ++ b) = tokCells a ++ tokCells b := by
  induction a with
  | nil => rfl
  | cons t r ih => simp [tokCells, ih]
theorem tokCells_len (a : List Tok) : (tokCells a).length = a.length * 5 := by
  induction a with
  | nil => rfl
  | cons t r ih => simp [tokCells, tokC, ih]; omega
theorem tokCells_at (a : List Tok) : ∀ (k : Nat) (t : Tok) (j : Nat), a[k]? = some t → j < 5 → (tokCells a)[k * 5 + j]? = (tokC t)[j]? := by
  induction a with
  | nil => intro k t j h; simp at h
  | cons t r ih =>
    intro k t' j h hj
    cases k with
    | zero =>
      simp at h
      subst h
      show (tokC t ++ tokCells r)[0 * 5 + j]? = _
      rw [List.getElem?_append_left (by simp [tokC]; omega)]
      simp
    | succ k =>
      simp at h
      show (tokC t ++ tokCells r)[(k + 1) * 5 + j]? = _
      rw [List.getElem?_append_right (by simp [tokC]; omega)]
      rw [show (k + 1) * 5 + j - (tokC t).length = k * 5 + j by simp [tokC]; omega]
      exact ih k t' j h hj
end Go.Proofs.YtkcfgcdlnojaeaaGreatDoor.WordPlain

namespace Go.Proofs.YtkcfgcdlnojaeaaGreatDoor.FoldPlain
open Go.PlainAid

def f1 (p x : Int) : Int := if (65 ≤ x ∧ x ≤ 90) ∨ (p = 195 ∧ 128 ≤ x ∧ x ≤ 158 ∧ x ≠ 151) then x + 32 else x

def pv (s : ByteArray) (j : Nat) : Int := if j = 0 then 0 else bt s (j - 1)

def fb (s : ByteArray) (j : Nat) : Int := f1 (pv s j) (bt s j)

theorem f1_range {p x : Int} (h0 : 0 ≤ x) (h1 : x ≤ 255) : 0 ≤ f1 p x ∧ f1 p x ≤ 255 := by
  unfold f1; split <;> omega

theorem fb_range (s : ByteArray) (j : Nat) : 0 ≤ fb s j ∧ fb s j ≤ 255 := f1_range (bt_nonneg s j) (bt_le s j)

def ofN (n : Nat) (f : Nat → Int) : ByteArray := ⟨(((List.range n).map fun j => UInt8.ofNat (f j).toNat)).toArray⟩

theorem ofN_size (n : Nat) (f : Nat → Int) : (ofN n f).size = n := by
  show (((List.range n).map fun j => UInt8.ofNat (f j).toNat)).toArray.size = n
  simp

theorem bt_ofN (n : Nat) (f : Nat → Int) (hf : ∀ j, 0 ≤ f j ∧ f j ≤ 255) (k : Nat) : bt (ofN n f) k = if k < n then f k else 0 := by
  unfold bt
  by_cases h : k < n
  · rw [dif_pos (by rw [ofN_size]; exact h), if_pos h]
    show ((((List.range n).map fun j => UInt8.ofNat (f j).toNat).toArray[k]'(by simpa using h)).toNat : Int) = f k
    have := hf k
    simp
    omega
  · rw [dif_neg (by rw [ofN_size]; exact h), if_neg h]

theorem ba_ext {a b : ByteArray} (hs : a.size = b.size) (h : ∀ k, k < a.size → bt a k = bt b k) : a = b := by
  have hd : a.data = b.data := by
    apply Array.ext
    · exact hs
    · intro i h1 h2
      have h1' : i < a.size := h1
      have h2' : i < b.size := h2
      have := h i h1'
      unfold bt at this
      rw [dif_pos h1', dif_pos h2'] at this
      have e : a[i].toNat = b[i].toNat := by omega
      exact UInt8.toNat_inj.1 e
  cases a; cases b; simp_all

def foldS (s : ByteArray) : ByteArray := ofN s.size (fb s)

theorem foldS_size (s : ByteArray) : (foldS s).size = s.size := ofN_size _ _

theorem bt_foldS (s : ByteArray) (k : Nat) (h : k < s.size) : bt (foldS s) k = fb s k := by
  unfold foldS; rw [bt_ofN _ _ (fb_range s), if_pos h]

theorem f1_195 {p x : Int} (h0 : 0 ≤ x) (h1 : x ≤ 255) : f1 p x = 195 ↔ x = 195 := by
  unfold f1; split <;> omega

theorem pv_fold (s : ByteArray) (k : Nat) (h : k < s.size) : pv (foldS s) k = 195 ↔ pv s k = 195 := by
  unfold pv
  by_cases hk : k = 0
  · simp [hk]
  · rw [if_neg hk, if_neg hk, bt_foldS s (k - 1) (by omega)]
    exact f1_195 (bt_nonneg _ _) (bt_le _ _)

theorem f1_again {p q x : Int} (_hx0 : 0 ≤ x) (_hx1 : x ≤ 255) (h : q = 195 ↔ p = 195) : f1 q (f1 p x) = f1 p x := by
  unfold f1
  by_cases hp : p = 195
  · have hq : q = 195 := h.2 hp
    subst hp; subst hq
    split <;> (try split) <;> omega
  · have hq : ¬ q = 195 := fun e => hp (h.1 e)
    simp only [hp, hq, false_and, or_false]
    split <;> (try split) <;> omega

theorem foldS_foldS (s : ByteArray) : foldS (foldS s) = foldS s := by
  refine ba_ext (by rw [foldS_size]) fun k hk => ?_
  rw [foldS_size, foldS_size] at hk
  rw [bt_foldS _ _ (by rw [foldS_size]; exact hk)]
  unfold fb
  rw [bt_foldS _ _ hk]
  exact f1_again (bt_nonneg _ _) (bt_le _ _) (pv_fold s k hk)

theorem bt_append (a b : ByteArray) (k : Nat) : bt (a ++ b) k = if k < a.size then bt a k else bt b (k - a.size) := by
  have hs : (a ++ b).size = a.size + b.size := ByteArray.size_append
  unfold bt
  by_cases h : k < a.size
  · rw [dif_pos (by rw [hs]; omega), if_pos h, dif_pos h]
    rw [ByteArray.getElem_append_left h]
  · rw [if_neg h]
    by_cases h2 : k < a.size + b.size
    · rw [dif_pos (by rw [hs]; exact h2), dif_pos (by omega)]
      rw [ByteArray.getElem_append_right (by omega)]
    · rw [dif_neg (by rw [hs]; exact h2), dif_neg (by omega)]

theorem foldS_append (a b : ByteArray) (h : a.size = 0 ∨ bt a (a.size - 1) ≠ 195) : foldS (a ++ b) = foldS a ++ foldS b := by
  refine ba_ext (by rw [foldS_size, ByteArray.size_append, ByteArray.size_append, foldS_size, foldS_size]) fun k hk => ?_
  rw [foldS_size, ByteArray.size_append] at hk
  rw [bt_foldS _ _ (by rw [ByteArray.size_append]; exact hk), bt_append, foldS_size]
  unfold fb
  rw [bt_append]
  by_cases hka : k < a.size
  · rw [if_pos hka, if_pos hka, bt_foldS _ _ hka]
    unfold fb pv
    by_cases hk0 : k = 0
    · simp [hk0]
    · rw [if_neg hk0, if_neg hk0, bt_append, if_pos (by omega)]
  · rw [if_neg hka, if_neg hka, bt_foldS _ _ (by omega)]
    unfold fb
    by_cases hk0 : k = a.size
    · have e0 : k - a.size = 0 := by omega
      rw [e0]
      have hp : pv (a ++ b) k ≠ 195 := by
        unfold pv
        by_cases hz : k = 0
        · simp [hz]
        · rw [if_neg hz, bt_append, if_pos (by omega), hk0]
          rcases h with h | h
          · omega
          · exact h
      have hp0 : pv b 0 ≠ 195 := by unfold pv; simp
      unfold f1
      simp only [hp, hp0, false_and, or_false]
    · have e : pv (a ++ b) k = pv b (k - a.size) := by
        unfold pv
        rw [if_neg (by omega), if_neg (by omega), bt_append, if_neg (by omega)]
        congr 1
        omega
      rw [e]

end Go.Proofs.YtkcfgcdlnojaeaaGreatDoor.FoldPlain

namespace Go.Proofs.YtkcfgcdlnojaeaaGreatDoor.StemPlain
open Go.PlainAid

def av (x : Int) : Bool := x == 97 || x == 101 || x == 105 || x == 111 || x == 117

def vow (s : ByteArray) : Nat → Bool
  | 0 => av (bt s 0)
  | i + 1 => av (bt s (i + 1)) || (bt s (i + 1) == 121 && !vow s i)

def msTo (s : ByteArray) : Nat → Nat
  | 0 => 0
  | k + 1 => msTo s k + (if vow s k && !vow s (k + 1) then 1 else 0)
def meas (s : ByteArray) : Nat := msTo s (s.size - 1)

def hasTo (s : ByteArray) : Nat → Bool
  | 0 => false
  | k + 1 => hasTo s k || vow s k
def hasV (s : ByteArray) : Bool := hasTo s s.size

def dbl (s : ByteArray) : Bool := decide (2 ≤ s.size) && (bt s (s.size - 1) == bt s (s.size - 2) && !vow s (s.size - 1))

def wxy (x : Int) : Bool := x == 119 || x == 120 || x == 121
def lsz (x : Int) : Bool := x == 108 || x == 115 || x == 122

def shrt (s : ByteArray) : Bool :=
  decide (3 ≤ s.size) && !wxy (bt s (s.size - 1)) && (!vow s (s.size - 3) && vow s (s.size - 2) && !vow s (s.size - 1))

def sfx (s e : ByteArray) : Bool := decide (e.size ≤ s.size) && (s.extract (s.size - e.size) s.size).data.toList == e.data.toList

def bst (s : ByteArray) (L : List (ByteArray × ByteArray)) : Nat → Option Nat
  | 0 => none
  | k + 1 =>
    match L[k]? with
    | none => bst s L k
    | some p =>
      if sfx s p.1 then
        match bst s L k with
        | none => some k
        | some j => match L[j]? with
          | none => some j
          | some q => if q.1.size < p.1.size then some k else some j
      else bst s L k

theorem bst_lt (s : ByteArray) (L : List (ByteArray × ByteArray)) : ∀ (k j : Nat), bst s L k = some j → j < k ∧ ∃ p, L[j]? = some p ∧ sfx s p.1 = true := by
  intro k
  induction k with
  | zero => intro j h; simp [bst] at h
  | succ k ih =>
    intro j h
    unfold bst at h
    cases hk : L[k]? with
    | none => rw [hk] at h; simp only at h; have := ih j h; exact ⟨by omega, this.2⟩
    | some p =>
      rw [hk] at h
      simp only at h
      by_cases hs : sfx s p.1 = true
      · rw [if_pos hs] at h
        cases hb : bst s L k with
        | none => rw [hb] at h; simp at h; subst h; exact ⟨by omega, p, hk, hs⟩
        | some j' =>
          rw [hb] at h
          simp only at h
          have h' := ih j' hb
          cases hj : L[j']? with
          | none => rw [hj] at h; simp at h; subst h; exact ⟨by omega, h'.2⟩
          | some q =>
            rw [hj] at h
            simp only at h
            by_cases hq : q.1.size < p.1.size
            · rw [if_pos hq] at h; simp at h; subst h; exact ⟨by omega, p, hk, hs⟩
            · rw [if_neg hq] at h; simp at h; subst h; exact ⟨by omega, h'.2⟩
      · rw [if_neg hs] at h
        have := ih j h
        exact ⟨by omega, this.2⟩

theorem bst_no {s : ByteArray} {L : List (ByteArray × ByteArray)} {k : Nat} {p} (h : L[k]? = some p) (hs : sfx s p.1 = false) : bst s L (k + 1) = bst s L k := by
  conv => lhs; unfold bst
  rw [h]
  simp [hs]
theorem bst_new {s : ByteArray} {L : List (ByteArray × ByteArray)} {k : Nat} {p} (h : L[k]? = some p) (hs : sfx s p.1 = true) (hb : bst s L k = none) : bst s L (k + 1) = some k := by
  conv => lhs; unfold bst
  rw [h]
  simp [hs, hb]
theorem bst_up {s : ByteArray} {L : List (ByteArray × ByteArray)} {k j : Nat} {p q} (h : L[k]? = some p) (hs : sfx s p.1 = true) (hb : bst s L k = some j) (hj : L[j]? = some q) (hl : q.1.size < p.1.size) : bst s L (k + 1) = some k := by
  conv => lhs; unfold bst
  rw [h]
  simp [hs, hb, hj, hl]
theorem bst_stay {s : ByteArray} {L : List (ByteArray × ByteArray)} {k j : Nat} {p q} (h : L[k]? = some p) (hs : sfx s p.1 = true) (hb : bst s L k = some j) (hj : L[j]? = some q) (hl : ¬ q.1.size < p.1.size) : bst s L (k + 1) = some j := by
  conv => lhs; unfold bst
  rw [h]
  simp [hs, hb, hj, hl]

def cut (s e : ByteArray) : ByteArray := s.extract 0 (s.size - e.size)

def lng (s : ByteArray) (L : List (ByteArray × ByteArray)) : Option (ByteArray × ByteArray) := (bst s L L.length).bind fun j => L[j]?

def lrest (s : ByteArray) (L : List (ByteArray × ByteArray)) : ByteArray :=
  match lng s L with
  | none => s
  | some p => cut s p.1
theorem lrest_none {s : ByteArray} {L : List (ByteArray × ByteArray)} (h : bst s L L.length = none) : lrest s L = s := by
  unfold lrest lng; rw [h]; rfl
theorem lrest_some {s : ByteArray} {L : List (ByteArray × ByteArray)} {j : Nat} {q} (h : bst s L L.length = some j) (hq : L[j]? = some q) : lrest s L = cut s q.1 := by
  unfold lrest lng; rw [h]; simp only [Option.bind_some, hq]
theorem lng_none {s : ByteArray} {L : List (ByteArray × ByteArray)} (h : bst s L L.length = none) : lng s L = none := by unfold lng; rw [h]; rfl
theorem lng_some {s : ByteArray} {L : List (ByteArray × ByteArray)} {j : Nat} {q} (h : bst s L L.length = some j) (hq : L[j]? = some q) : lng s L = some q := by unfold lng; rw [h]; exact hq

def rep (s : ByteArray) (L : List (ByteArray × ByteArray)) (most : Nat) : ByteArray :=
  match lng s L with
  | none => s
  | some p => if meas (cut s p.1) ≤ most then s else cut s p.1 ++ p.2

theorem sfx_le {s e : ByteArray} (h : sfx s e = true) : e.size ≤ s.size := by
  unfold sfx at h; simp at h; exact h.1

theorem cut_size (s e : ByteArray) : (cut s e).size = s.size - e.size := by
  unfold cut; rw [ByteArray.size_extract]; omega

theorem msTo_le (s : ByteArray) : ∀ k, msTo s k ≤ k := by
  intro k
  induction k with
  | zero => simp [msTo]
  | succ k ih => unfold msTo; split <;> omega

abbrev PL := List (ByteArray × ByteArray)
def L1a : PL := [(⟨#[115, 115, 101, 115]⟩, ⟨#[115, 115]⟩), (⟨#[105, 101, 115]⟩, ⟨#[105]⟩), (⟨#[115, 115]⟩, ⟨#[115, 115]⟩), (⟨#[115]⟩, ⟨#[]⟩)]
def L1b : PL := [(⟨#[101, 101, 100]⟩, ⟨#[101, 101]⟩), (⟨#[101, 100]⟩, ⟨#[]⟩), (⟨#[105, 110, 103]⟩, ⟨#[]⟩)]
def L2 : PL := [(⟨#[97, 116, 105, 111, 110, 97, 108]⟩, ⟨#[97, 116, 101]⟩), (⟨#[116, 105, 111, 110, 97, 108]⟩, ⟨#[116, 105, 111, 110]⟩), (⟨#[101, 110, 99, 105]⟩, ⟨#[101, 110, 99, 101]⟩), (⟨#[97, 110, 99, 105]⟩, ⟨#[97, 110, 99, 101]⟩), (⟨#[105, 122, 101, 114]⟩, ⟨#[105, 122, 101]⟩), (⟨#[97, 98, 108, 105]⟩, ⟨#[97, 98, 108, 101]⟩), (⟨#[97, 108, 108, 105]⟩, ⟨#[97, 108]⟩), (⟨#[101, 110, 116, 108, 105]⟩, ⟨#[101, 110, 116]⟩), (⟨#[101, 108, 105]⟩, ⟨#[101]⟩), (⟨#[111, 117, 115, 108, 105]⟩, ⟨#[111, 117, 115]⟩), (⟨#[105, 122, 97, 116, 105, 111, 110]⟩, ⟨#[105, 122, 101]⟩), (⟨#[97, 116, 105, 111, 110]⟩, ⟨#[97, 116, 101]⟩), (⟨#[97, 116, 111, 114]⟩, ⟨#[97, 116, 101]⟩), (⟨#[97, 108, 105, 115, 109]⟩, ⟨#[97, 108]⟩), (⟨#[105, 118, 101, 110, 101, 115, 115]⟩, ⟨#[105, 118, 101]⟩), (⟨#[102, 117, 108, 110, 101, 115, 115]⟩, ⟨#[102, 117, 108]⟩), (⟨#[111, 117, 115, 110, 101, 115, 115]⟩, ⟨#[111, 117, 115]⟩), (⟨#[97, 108, 105, 116, 105]⟩, ⟨#[97, 108]⟩), (⟨#[105, 118, 105, 116, 105]⟩, ⟨#[105, 118, 101]⟩), (⟨#[98, 105, 108, 105, 116, 105]⟩, ⟨#[98, 108, 101]⟩)]
def L3 : PL := [(⟨#[105, 99, 97, 116, 101]⟩, ⟨#[105, 99]⟩), (⟨#[97, 116, 105, 118, 101]⟩, ⟨#[]⟩), (⟨#[97, 108, 105, 122, 101]⟩, ⟨#[97, 108]⟩), (⟨#[105, 99, 105, 116, 105]⟩, ⟨#[105, 99]⟩), (⟨#[105, 99, 97, 108]⟩, ⟨#[105, 99]⟩), (⟨#[102, 117, 108]⟩, ⟨#[]⟩), (⟨#[110, 101, 115, 115]⟩, ⟨#[]⟩)]
def L4 : PL := [(⟨#[97, 108]⟩, ⟨#[]⟩), (⟨#[97, 110, 99, 101]⟩, ⟨#[]⟩), (⟨#[101, 110, 99, 101]⟩, ⟨#[]⟩), (⟨#[101, 114]⟩, ⟨#[]⟩), (⟨#[105, 99]⟩, ⟨#[]⟩), (⟨#[97, 98, 108, 101]⟩, ⟨#[]⟩), (⟨#[105, 98, 108, 101]⟩, ⟨#[]⟩), (⟨#[97, 110, 116]⟩, ⟨#[]⟩), (⟨#[101, 109, 101, 110, 116]⟩, ⟨#[]⟩), (⟨#[109, 101, 110, 116]⟩, ⟨#[]⟩), (⟨#[101, 110, 116]⟩, ⟨#[]⟩), (⟨#[105, 111, 110]⟩, ⟨#[]⟩), (⟨#[111, 117]⟩, ⟨#[]⟩), (⟨#[105, 115, 109]⟩, ⟨#[]⟩), (⟨#[97, 116, 101]⟩, ⟨#[]⟩), (⟨#[105, 116, 105]⟩, ⟨#[]⟩), (⟨#[111, 117, 115]⟩, ⟨#[]⟩), (⟨#[105, 118, 101]⟩, ⟨#[]⟩), (⟨#[105, 122, 101]⟩, ⟨#[]⟩)]

def sub (s : ByteArray) (L : PL) : ByteArray :=
  match lng s L with
  | none => s
  | some p => cut s p.1 ++ p.2
def s1a (s : ByteArray) : ByteArray := sub s L1a
def chop (s : ByteArray) : ByteArray := s.extract 0 (s.size - 1)
def mend (s : ByteArray) : ByteArray :=
  if sfx s ⟨#[97, 116]⟩ || sfx s ⟨#[98, 108]⟩ || sfx s ⟨#[105, 122]⟩ then s ++ ⟨#[101]⟩
  else if dbl s && !lsz (bt s (s.size - 1)) then chop s
  else if meas s == 1 && shrt s then s ++ ⟨#[101]⟩
  else s
def s1b (s : ByteArray) : ByteArray :=
  if bst s L1b 3 = some 0 then (if 0 < meas (cut s ⟨#[101, 101, 100]⟩) then cut s ⟨#[101, 101, 100]⟩ ++ ⟨#[101, 101]⟩ else s)
  else if bst s L1b 3 = some 1 then (if hasV (cut s ⟨#[101, 100]⟩) then mend (cut s ⟨#[101, 100]⟩) else s)
  else if bst s L1b 3 = some 2 then (if hasV (cut s ⟨#[105, 110, 103]⟩) then mend (cut s ⟨#[105, 110, 103]⟩) else s)
  else s
def s1c (s : ByteArray) : ByteArray := if sfx s ⟨#[121]⟩ && hasV (cut s ⟨#[121]⟩) then cut s ⟨#[121]⟩ ++ ⟨#[105]⟩ else s
def s4 (s : ByteArray) : ByteArray :=
  if bst s L4 19 = some 11 ∧ sfx (cut s ⟨#[105, 111, 110]⟩) ⟨#[115]⟩ = false ∧ sfx (cut s ⟨#[105, 111, 110]⟩) ⟨#[116]⟩ = false then s else rep s L4 1
def s5a (s : ByteArray) : ByteArray :=
  if sfx s ⟨#[101]⟩ && (decide (1 < meas (cut s ⟨#[101]⟩)) || (meas (cut s ⟨#[101]⟩) == 1 && !shrt (cut s ⟨#[101]⟩))) then cut s ⟨#[101]⟩ else s
def s5b (s : ByteArray) : ByteArray := if sfx s ⟨#[108, 108]⟩ && decide (1 < meas s) then chop s else s
def allSmall (s : ByteArray) : Nat → Bool
  | 0 => true
  | k + 1 => allSmall s k && decide (97 ≤ bt s k ∧ bt s k ≤ 122)
def poss (s : ByteArray) : ByteArray := if decide (2 < s.size) && sfx s ⟨#[39, 115]⟩ then cut s ⟨#[39, 115]⟩ else s
def stem (s : ByteArray) : ByteArray :=
  if (poss s).size < 3 then poss s
  else if allSmall (poss s) (poss s).size then s5b (s5a (s4 (rep (rep (s1c (s1b (s1a (poss s)))) L2 0) L3 0)))
  else poss s

theorem rep_none {s : ByteArray} {L : PL} {m : Nat} (h : bst s L L.length = none) : rep s L m = s := by unfold rep; rw [lng_none h]
theorem rep_low {s : ByteArray} {L : PL} {m j : Nat} {q} (h : bst s L L.length = some j) (hq : L[j]? = some q) (hm : meas (cut s q.1) ≤ m) : rep s L m = s := by
  unfold rep; rw [lng_some h hq]; simp [hm]
theorem rep_high {s : ByteArray} {L : PL} {m j : Nat} {q} (h : bst s L L.length = some j) (hq : L[j]? = some q) (hm : ¬ meas (cut s q.1) ≤ m) : rep s L m = cut s q.1 ++ q.2 := by
  unfold rep; rw [lng_some h hq]; simp [hm]

theorem sub_none {s : ByteArray} {L : PL} (h : bst s L L.length = none) : sub s L = s := by unfold sub; rw [lng_none h]
theorem sub_some {s : ByteArray} {L : PL} {j : Nat} {q} (h : bst s L L.length = some j) (hq : L[j]? = some q) : sub s L = cut s q.1 ++ q.2 := by
  unfold sub; rw [lng_some h hq]

theorem s1b_none {s : ByteArray} (h : bst s L1b 3 = none) : s1b s = s := by unfold s1b; rw [h]; simp
theorem s1b_0 {s : ByteArray} (h : bst s L1b 3 = some 0) : s1b s = if 0 < meas (cut s ⟨#[101, 101, 100]⟩) then cut s ⟨#[101, 101, 100]⟩ ++ ⟨#[101, 101]⟩ else s := by unfold s1b; rw [h]; simp
theorem s1b_1 {s : ByteArray} (h : bst s L1b 3 = some 1) : s1b s = if hasV (cut s ⟨#[101, 100]⟩) then mend (cut s ⟨#[101, 100]⟩) else s := by unfold s1b; rw [h]; simp
theorem s1b_2 {s : ByteArray} (h : bst s L1b 3 = some 2) : s1b s = if hasV (cut s ⟨#[105, 110, 103]⟩) then mend (cut s ⟨#[105, 110, 103]⟩) else s := by unfold s1b; rw [h]; simp

end Go.Proofs.YtkcfgcdlnojaeaaGreatDoor.StemPlain

namespace Go.Proofs.YtkcfgcdlnojaeaaGreatDoor.StemSize
open Go.PlainAid StemPlain

theorem rep_size {s : ByteArray} {L : PL} {m : Nat} (h : ∀ p ∈ L, p.2.size ≤ 10) : (rep s L m).size ≤ s.size + 10 := by
  unfold rep
  cases hl : lng s L with
  | none => simp
  | some p =>
    have hp : p ∈ L := by
      unfold lng at hl
      rw [Option.bind_eq_some_iff] at hl
      obtain ⟨j, _, hj⟩ := hl
      exact List.mem_of_getElem? hj
    have := h p hp
    have hc := cut_size s p.1
    simp only
    split
    · omega
    · rw [ByteArray.size_append]; omega
theorem sub_size {s : ByteArray} {L : PL} (h : ∀ p ∈ L, p.2.size ≤ 10) : (sub s L).size ≤ s.size + 10 := by
  unfold sub
  cases hl : lng s L with
  | none => simp
  | some p =>
    have hp : p ∈ L := by
      unfold lng at hl
      rw [Option.bind_eq_some_iff] at hl
      obtain ⟨j, _, hj⟩ := hl
      exact List.mem_of_getElem? hj
    have := h p hp
    have hc := cut_size s p.1
    simp only
    rw [ByteArray.size_append]; omega
theorem chop_size (s : ByteArray) : (chop s).size = s.size - 1 := by unfold chop; rw [ByteArray.size_extract]; omega
theorem mend_size (s : ByteArray) : (mend s).size ≤ s.size + 1 := by
  unfold mend
  split
  · rw [ByteArray.size_append]; exact Nat.le_refl _
  · split
    · rw [chop_size]; omega
    · split
      · rw [ByteArray.size_append]; exact Nat.le_refl _
      · omega
theorem s1a_size (s : ByteArray) : (s1a s).size ≤ s.size + 10 := sub_size (by decide)
theorem s1b_size (s : ByteArray) : (s1b s).size ≤ s.size + 10 := by
  unfold s1b
  have c1 := cut_size s ⟨#[101, 101, 100]⟩
  have c2 := cut_size s ⟨#[101, 100]⟩
  have c3 := cut_size s ⟨#[105, 110, 103]⟩
  have m2 := mend_size (cut s ⟨#[101, 100]⟩)
  have m3 := mend_size (cut s ⟨#[105, 110, 103]⟩)
  repeat' split
  all_goals (try rw [ByteArray.size_append])
  all_goals (try (have : (⟨#[101, 101]⟩ : ByteArray).size = 2 := rfl))
  all_goals omega
theorem s1c_size (s : ByteArray) : (s1c s).size ≤ s.size + 10 := by
  unfold s1c
  have c1 := cut_size s ⟨#[121]⟩
  split
  · rw [ByteArray.size_append]; have : (⟨#[105]⟩ : ByteArray).size = 1 := rfl; omega
  · omega
theorem s4_size (s : ByteArray) : (s4 s).size ≤ s.size + 10 := by
  unfold s4
  split
  · omega
  · exact rep_size (by decide)
theorem s5a_size (s : ByteArray) : (s5a s).size ≤ s.size := by
  unfold s5a
  have c1 := cut_size s ⟨#[101]⟩
  split <;> omega
theorem poss_size (s : ByteArray) : (poss s).size ≤ s.size := by
  unfold poss
  have c1 := cut_size s ⟨#[39, 115]⟩
  split <;> omega
end Go.Proofs.YtkcfgcdlnojaeaaGreatDoor.StemSize
