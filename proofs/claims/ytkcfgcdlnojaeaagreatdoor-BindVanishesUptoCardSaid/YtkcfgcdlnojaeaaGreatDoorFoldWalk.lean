/-
  The walk of tokens.Fold: it gives foldS; old memory stays.
-/
import Derived.Test.YtkcfgcdlnojaeaaGreatDoorChecked
import Derived.Test.YtkcfgcdlnojaeaaGreatDoorDPlains
import Derived.WalkKit
import Derived.Handy
import Derived.Lib.Hide
import Derived.Outline
import Derived.WalkLawsBesides
import Derived.BigGuardPart
import Derived.Laws.IdiomStrings
set_option linter.unusedVariables false
set_option linter.unusedSimpArgs false
namespace Go.Proofs.YtkcfgcdlnojaeaaGreatDoor.FoldWalk
open Go.RowKit Go.PlainAid FoldPlain

def mid (s : ByteArray) (z k : Nat) : Array Value := Array.ofFn (n := z) fun j => .int .u8 (if j.1 < k then fb s j.1 else if j.1 < s.size then bt s j.1 else 0)

theorem mid_zero (s : ByteArray) (z : Nat) (h : s.size ≤ z) : bytesRow s z = mid s z 0 := by
  unfold bytesRow mid
  apply Array.ext
  · simp; show s.size + (z - s.size) = z; omega
  · intro i h1 h2
    simp only [Array.getElem_ofFn, Nat.not_lt_zero, if_false]
    by_cases hi : i < s.size
    · rw [Array.getElem_append_left (by simpa using hi), if_pos hi]
      simp
      unfold bt
      rw [dif_pos hi]
      rfl
    · rw [Array.getElem_append_right (by simpa using Nat.le_of_not_lt hi), if_neg hi]
      simp

theorem mid_at (s : ByteArray) (z k j : Nat) : (mid s z k)[j]? = if j < z then some (.int .u8 (if j < k then fb s j else if j < s.size then bt s j else 0)) else none := by
  unfold mid
  rw [Array.getElem?_ofFn]
  by_cases h : j < z <;> simp [h]

theorem mid_size (s : ByteArray) (z k : Nat) : (mid s z k).size = z := by simp [mid]

theorem mid_set (s : ByteArray) (z k : Nat) : (mid s z k).setIfInBounds k (.int .u8 (fb s k)) = mid s z (k + 1) := by
  apply Array.ext_getElem?
  intro i
  rw [Array.getElem?_setIfInBounds, mid_at, mid_at, mid_size]
  by_cases hi : k = i
  · subst hi; simp
  · rw [if_neg hi]
    by_cases hz : i < z
    · rw [if_pos hz, if_pos hz]
      by_cases h : i < k
      · rw [if_pos h, if_pos (by omega)]
      · rw [if_neg h, if_neg (show ¬ i < k + 1 by omega)]
    · rw [if_neg hz, if_neg hz]

theorem mid_same (s : ByteArray) (z k : Nat) (hk : k < s.size) (h : fb s k = bt s k) : mid s z k = mid s z (k + 1) := by
  apply Array.ext_getElem?
  intro i
  rw [mid_at, mid_at]
  by_cases hz : i < z
  · rw [if_pos hz, if_pos hz]
    by_cases hi : i = k
    · subst hi; simp [hk, h]
    · by_cases h : i < k
      · rw [if_pos h, if_pos (by omega)]
      · rw [if_neg h, if_neg (show ¬ i < k + 1 by omega)]
  · rw [if_neg hz, if_neg hz]

theorem setCell_mark (w : World) (C : Array Value) (t : TypeId) (fr : Nat × Nat) (k : Nat) (u : Value) :
    (w.alloc (.cells C t fr)).setCell ⟨w.heap.size, k, none⟩ u = w.alloc (.cells (C.setIfInBounds k u) t fr) := by
  have hm : ∀ (a : Array Obj) (x : Obj) (f : Obj → Obj), (a.push x).modify a.size f = a.push (f x) := by
    intro a x f
    apply Array.ext
    · simp
    · intro i h1 h2
      simp only [Array.getElem_modify, Array.getElem_push]
      by_cases h : a.size = i
      · subst h; simp
      · have hi : i < a.size := by simp at h1; omega
        simp [h, hi]
  unfold World.setCell
  show ({ w.alloc (.cells C t fr) with heap := (w.heap.push (.cells C t fr)).modify w.heap.size _ } : World) = _
  rw [hm]
  rfl

theorem fb_yes {s : ByteArray} {k : Nat} (h : (65 ≤ bt s k ∧ bt s k ≤ 90) ∨ (0 < k ∧ bt s (k - 1) = 195 ∧ 128 ≤ bt s k ∧ bt s k ≤ 158 ∧ bt s k ≠ 151)) : fb s k = bt s k + 32 := by
  unfold fb f1 pv
  rw [if_pos]
  rcases h with h | ⟨h0, h1, h2⟩
  · exact .inl h
  · refine .inr ⟨?_, h2⟩
    rw [if_neg (by omega)]
    exact h1

theorem fb_no {s : ByteArray} {k : Nat} (h : ¬ ((65 ≤ bt s k ∧ bt s k ≤ 90) ∨ (0 < k ∧ bt s (k - 1) = 195 ∧ 128 ≤ bt s k ∧ bt s k ≤ 158 ∧ bt s k ≠ 151))) : fb s k = bt s k := by
  unfold fb f1 pv
  rw [if_neg]
  rintro (h1 | ⟨h1, h2⟩)
  · exact h (.inl h1)
  · by_cases hk : k = 0
    · simp [hk] at h1
    · rw [if_neg hk] at h1
      exact h (.inr ⟨by omega, h1, h2⟩)

theorem end_yes (w : World) (s : ByteArray) (z k : Nat) (h : fb s k = bt s k + 32) :
    ((w.alloc (.cells (mid s z k) 5 (z, z + 1))).setCell ⟨w.heap.size, k, none⟩ (.int .u8 (bt s k + 32))).drew = (w.alloc (.cells (mid s z (k + 1)) 5 (z, z + 1))).drew := by
  rw [setCell_mark, ← h, mid_set]

theorem end_no (w : World) (s : ByteArray) (z k : Nat) (hk : k < s.size) (h : fb s k = bt s k) :
    (w.alloc (.cells (mid s z k) 5 (z, z + 1))).drew = (w.alloc (.cells (mid s z (k + 1)) 5 (z, z + 1))).drew := by
  rw [mid_same s z k hk h]

theorem back_run (P : Program) (w : World) (s : ByteArray) (z : Nat) (hz : s.size ≤ z) {S B E : TypeId} (h1 : P.underlying B = some (.slice E)) (h2 : P.underlying E = some (.int .u8)) (h3 : P.underlying S = some .string) :
    (convert B S (.slice (some ⟨w.heap.size, 0, none⟩) s.size z)).run P (w.alloc (.cells (mid s z s.size) E (z, z + 1))).drew = .ok (.string (foldS s)) (w.alloc (.cells (mid s z s.size) E (z, z + 1))).drew := by
  have hl : (foldS s).data.toList.length = s.size := by rw [Array.length_toList]; exact foldS_size s
  have h := run_convert_bytes_back (P := P) (w.alloc (.cells (mid s z s.size) E (z, z + 1))).drew B S E ⟨w.heap.size, 0, none⟩ z (foldS s).data.toList h1 h2 h3 (fun j hj => by
    rw [hl] at hj
    rw [Addr.add_lit]
    show (w.alloc (.cells (mid s z s.size) E (z, z + 1))).cell? ⟨w.heap.size, 0 + j, none⟩ = _
    rw [World.cell?_alloc_mark, mid_at, Nat.zero_add, if_pos (by omega), if_pos hj]
    have := bt_foldS s j hj
    unfold bt at this
    rw [dif_pos (by rw [foldS_size]; exact hj)] at this
    rw [← this]
    rfl)
  rw [hl] at h
  exact h

set_option maxHeartbeats 1000000 in
theorem fold_any (s : ByteArray) (w : World) (hs : s.size ≤ maxLen) :
    Calls Tryz.prog 37 #[.string s] w fun e w' => e = .returned (.string (foldS s)) ∧ Below w.heap.size w w' := by
  unfold maxLen at hs
  have hcv := run_bytes_of_string (P := Tryz.prog) w 9 82 5 s Tryz.underlying9 Tryz.underlying82 Tryz.underlying5
  have hge := grownCap_ge w s.size 0 5
  generalize grownCap w s.size 0 5 = z at hcv hge
  rw [mid_zero s z hge, mid_size] at hcv
  go_enter Tryz.func37, Tryz.ntmps37
  go_wp2
  go_loopw [10] (fun i wr => ∃ k : Nat, k ≤ s.size ∧ i = .int .i64 k ∧ wr = (w.alloc (.cells (mid s z k) 5 (z, z + 1))).drew) (fun i _ => s.size - (intOf i).toNat)
  case atStart => exact ⟨0, Nat.zero_le _, rfl, rfl⟩
  case round =>
    obtain ⟨k, hk, rfl, rfl⟩ := hrel
    clear hcv
    by_cases hlt : k < s.size
    · have hc : (w.alloc (.cells (mid s z k) 5 (z, z + 1))).cell? ⟨w.heap.size, k, none⟩ = some (.int .u8 (bt s k)) := by
        rw [World.cell?_alloc_mark, mid_at, if_pos (by omega), if_neg (by omega), if_pos hlt]
      have hf : (w.alloc (.cells (mid s z k) 5 (z, z + 1))).frozen? ⟨w.heap.size, k, none⟩ = false := by
        rw [World.frozen?_alloc_mark]; simp; omega
      have hx0 := bt_nonneg s k
      have hx1 := bt_le s k
      have hb := get_bt s
      go_wp2
      all_goals
        go_roundw
        case rel =>
          refine ⟨k + 1, by omega, by go_num, ?_⟩
          first
            | exact end_yes w s z k (fb_yes (by (try simp only [bne_iff_ne] at *); omega))
            | exact end_no w s z k hlt (fb_no (by (try simp only [bne_eq_false_iff_eq] at *); omega))
        case measure => simp [intOf]; omega
    · obtain rfl : k = s.size := by omega
      have hbk := back_run Tryz.prog w s z hge Tryz.underlying82 Tryz.underlying5 Tryz.underlying9
      go_wp2
      go_ret
      exact ⟨rfl, ((Below.refl _ _).alloc (Nat.le_refl _) _).drew⟩
end Go.Proofs.YtkcfgcdlnojaeaaGreatDoor.FoldWalk
