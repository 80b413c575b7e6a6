/-
  Plain facts on Fold: bytes as numbers; no program in sight.
-/
import Derived.PlainAid
namespace Go.Proofs.YtmoahflgcojfcaaDoor.FoldPlain
open Go.PlainAid

/-- One byte folded: p is the number of the byte ahead of it (0 at the head). -/
def f1 (p x : Int) : Int := if (65 ≤ x ∧ x ≤ 90) ∨ (p = 195 ∧ 128 ≤ x ∧ x ≤ 158 ∧ x ≠ 151) then x + 32 else x

/-- The byte ahead of place j (0 at the head). -/
def pv (s : ByteArray) (j : Nat) : Int := if j = 0 then 0 else bt s (j - 1)

def fb (s : ByteArray) (j : Nat) : Int := f1 (pv s j) (bt s j)

theorem f1_range {p x : Int} (h0 : 0 ≤ x) (h1 : x ≤ 255) : 0 ≤ f1 p x ∧ f1 p x ≤ 255 := by
  unfold f1; split <;> omega

theorem fb_range (s : ByteArray) (j : Nat) : 0 ≤ fb s j ∧ fb s j ≤ 255 := f1_range (bt_nonneg s j) (bt_le s j)

/-- A string of n bytes, told by their numbers. -/
def ofN (n : Nat) (f : Nat → Int) : ByteArray := ⟨(((List.range n).map fun j => UInt8.ofNat (f j).toNat)).toArray⟩

theorem ofN_size (n : Nat) (f : Nat → Int) : (ofN n f).size = n := by
  show (((List.range n).map fun j => UInt8.ofNat (f j).toNat)).toArray.size = n
  simp

theorem bt_ofN (n : Nat) (f : Nat → Int) (hf : ∀ j, 0 ≤ f j ∧ f j ≤ 255) (k : Nat) : bt (ofN n f) k = if k < n then f k else 0 := by
  unfold bt
  by_cases h : k < n
  · rw [dif_pos (by rw [ofN_size]; exact h), if_pos h]
    show ((((List.range n).map fun j => UInt8.ofNat (f j).toNat).toArray[k]'(by simpa using h)).toNat : Int) = f k
    have := hf k
    simp
    omega
  · rw [dif_neg (by rw [ofN_size]; exact h), if_neg h]

theorem ba_ext {a b : ByteArray} (hs : a.size = b.size) (h : ∀ k, k < a.size → bt a k = bt b k) : a = b := by
  have hd : a.data = b.data := by
    apply Array.ext
    · exact hs
    · intro i h1 h2
      have h1' : i < a.size := h1
      have h2' : i < b.size := h2
      have := h i h1'
      unfold bt at this
      rw [dif_pos h1', dif_pos h2'] at this
      have e : a[i].toNat = b[i].toNat := by omega
      exact UInt8.toNat_inj.1 e
  cases a; cases b; simp_all

/-- Fold as a function on strings. -/
def foldS (s : ByteArray) : ByteArray := ofN s.size (fb s)

theorem foldS_size (s : ByteArray) : (foldS s).size = s.size := ofN_size _ _

theorem bt_foldS (s : ByteArray) (k : Nat) (h : k < s.size) : bt (foldS s) k = fb s k := by
  unfold foldS; rw [bt_ofN _ _ (fb_range s), if_pos h]

theorem f1_195 {p x : Int} (h0 : 0 ≤ x) (h1 : x ≤ 255) : f1 p x = 195 ↔ x = 195 := by
  unfold f1; split <;> omega

theorem pv_fold (s : ByteArray) (k : Nat) (h : k < s.size) : pv (foldS s) k = 195 ↔ pv s k = 195 := by
  unfold pv
  by_cases hk : k = 0
  · simp [hk]
  · rw [if_neg hk, if_neg hk, bt_foldS s (k - 1) (by omega)]
    exact f1_195 (bt_nonneg _ _) (bt_le _ _)

theorem f1_again {p q x : Int} (_hx0 : 0 ≤ x) (_hx1 : x ≤ 255) (h : q = 195 ↔ p = 195) : f1 q (f1 p x) = f1 p x := by
  unfold f1
  by_cases hp : p = 195
  · have hq : q = 195 := h.2 hp
    subst hp; subst hq
    split <;> (try split) <;> omega
  · have hq : ¬ q = 195 := fun e => hp (h.1 e)
    simp only [hp, hq, false_and, or_false]
    split <;> (try split) <;> omega

/-- Folding again changes nothing. -/
theorem foldS_foldS (s : ByteArray) : foldS (foldS s) = foldS s := by
  refine ba_ext (by rw [foldS_size]) fun k hk => ?_
  rw [foldS_size, foldS_size] at hk
  rw [bt_foldS _ _ (by rw [foldS_size]; exact hk)]
  unfold fb
  rw [bt_foldS _ _ hk]
  exact f1_again (bt_nonneg _ _) (bt_le _ _) (pv_fold s k hk)

theorem bt_append (a b : ByteArray) (k : Nat) : bt (a ++ b) k = if k < a.size then bt a k else bt b (k - a.size) := by
  have hs : (a ++ b).size = a.size + b.size := ByteArray.size_append
  unfold bt
  by_cases h : k < a.size
  · rw [dif_pos (by rw [hs]; omega), if_pos h, dif_pos h]
    rw [ByteArray.getElem_append_left h]
  · rw [if_neg h]
    by_cases h2 : k < a.size + b.size
    · rw [dif_pos (by rw [hs]; exact h2), dif_pos (by omega)]
      rw [ByteArray.getElem_append_right (by omega)]
    · rw [dif_neg (by rw [hs]; exact h2), dif_neg (by omega)]

/-- Piece by piece, where the first does not end with 195. -/
theorem foldS_append (a b : ByteArray) (h : a.size = 0 ∨ bt a (a.size - 1) ≠ 195) : foldS (a ++ b) = foldS a ++ foldS b := by
  refine ba_ext (by rw [foldS_size, ByteArray.size_append, ByteArray.size_append, foldS_size, foldS_size]) fun k hk => ?_
  rw [foldS_size, ByteArray.size_append] at hk
  rw [bt_foldS _ _ (by rw [ByteArray.size_append]; exact hk), bt_append, foldS_size]
  unfold fb
  rw [bt_append]
  by_cases hka : k < a.size
  · rw [if_pos hka, if_pos hka, bt_foldS _ _ hka]
    unfold fb pv
    by_cases hk0 : k = 0
    · simp [hk0]
    · rw [if_neg hk0, if_neg hk0, bt_append, if_pos (by omega)]
  · rw [if_neg hka, if_neg hka, bt_foldS _ _ (by omega)]
    unfold fb
    by_cases hk0 : k = a.size
    · have e0 : k - a.size = 0 := by omega
      rw [e0]
      have hp : pv (a ++ b) k ≠ 195 := by
        unfold pv
        by_cases hz : k = 0
        · simp [hz]
        · rw [if_neg hz, bt_append, if_pos (by omega), hk0]
          rcases h with h | h
          · omega
          · exact h
      have hp0 : pv b 0 ≠ 195 := by unfold pv; simp
      unfold f1
      simp only [hp, hp0, false_and, or_false]
    · have e : pv (a ++ b) k = pv b (k - a.size) := by
        unfold pv
        rw [if_neg (by omega), if_neg (by omega), bt_append, if_neg (by omega)]
        congr 1
        omega
      rw [e]

end Go.Proofs.YtmoahflgcojfcaaDoor.FoldPlain
