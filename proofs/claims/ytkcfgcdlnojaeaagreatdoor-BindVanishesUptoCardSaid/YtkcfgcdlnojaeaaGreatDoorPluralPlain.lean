/-
  Plain facts on stems: never longer, never empty; a word, its plural and its possessive have one stem.
-/
import Derived.Test.YtkcfgcdlnojaeaaGreatDoorDPlains
set_option linter.unusedVariables false
set_option linter.unusedSimpArgs false
namespace Go.Proofs.YtkcfgcdlnojaeaaGreatDoor.PluralPlain
open Go.PlainAid StemPlain StemSize

theorem lng_spec {s : ByteArray} {L : PL} {p} (h : lng s L = some p) : p ∈ L ∧ sfx s p.1 = true := by
  unfold lng at h
  rw [Option.bind_eq_some_iff] at h
  obtain ⟨j, hj, hp⟩ := h
  obtain ⟨_, q, hq, hs⟩ := bst_lt s L L.length j hj
  rw [hq] at hp
  injection hp with hp
  subst hp
  exact ⟨List.mem_of_getElem? hq, hs⟩

theorem rep_le {s : ByteArray} {L : PL} {m : Nat} (h : ∀ p ∈ L, p.2.size ≤ p.1.size) : (rep s L m).size ≤ s.size := by
  unfold rep
  cases hl : lng s L with
  | none => simp
  | some p =>
    obtain ⟨hp, hs⟩ := lng_spec hl
    have := h p hp
    have hle := sfx_le hs
    have hc := cut_size s p.1
    simp only
    split
    · omega
    · rw [ByteArray.size_append]; omega
theorem sub_le {s : ByteArray} {L : PL} (h : ∀ p ∈ L, p.2.size ≤ p.1.size) : (sub s L).size ≤ s.size := by
  unfold sub
  cases hl : lng s L with
  | none => simp
  | some p =>
    obtain ⟨hp, hs⟩ := lng_spec hl
    have := h p hp
    have hle := sfx_le hs
    have hc := cut_size s p.1
    simp only
    rw [ByteArray.size_append]; omega
theorem meas_le (s : ByteArray) : meas s ≤ s.size := by unfold meas; have := msTo_le s (s.size - 1); omega
theorem hasV_pos {s : ByteArray} (h : hasV s = true) : 0 < s.size := by
  rcases Nat.eq_zero_or_pos s.size with h0 | h0
  · unfold hasV at h; rw [h0] at h; simp [hasTo] at h
  · exact h0
theorem rep_pos {s : ByteArray} {L : PL} {m : Nat} (h : 0 < s.size) : 0 < (rep s L m).size := by
  unfold rep
  cases hl : lng s L with
  | none => simpa using h
  | some p =>
    have hm := meas_le (cut s p.1)
    simp only
    split
    · exact h
    · rw [ByteArray.size_append]; omega
theorem dbl_ge {s : ByteArray} (h : dbl s = true) : 2 ≤ s.size := by
  unfold dbl at h; simp only [Bool.and_eq_true, decide_eq_true_eq] at h; exact h.1
theorem mend_pos {s : ByteArray} (h : 0 < s.size) : 0 < (mend s).size := by
  unfold mend
  split
  · rw [ByteArray.size_append]; omega
  · split
    · rename_i hd
      simp only [Bool.and_eq_true] at hd
      have := dbl_ge hd.1
      rw [chop_size]; omega
    · split
      · rw [ByteArray.size_append]; omega
      · exact h

theorem s1a_le (s : ByteArray) : (s1a s).size ≤ s.size := sub_le (by decide)
theorem s1a_pos {s : ByteArray} (h : 2 ≤ s.size) : 0 < (s1a s).size := by
  unfold s1a sub
  cases hl : lng s L1a with
  | none => simp only; omega
  | some p =>
    obtain ⟨hp, hs⟩ := lng_spec hl
    have hle := sfx_le hs
    have hc := cut_size s p.1
    have hd : p.1.size = 1 ∨ 0 < p.2.size := by
      have : ∀ p ∈ L1a, p.1.size = 1 ∨ 0 < p.2.size := by decide
      exact this p hp
    simp only
    rw [ByteArray.size_append]
    omega
theorem s1b_le (s : ByteArray) : (s1b s).size ≤ s.size := by
  unfold s1b
  have c1 := cut_size s ⟨#[101, 101, 100]⟩
  have c2 := cut_size s ⟨#[101, 100]⟩
  have c3 := cut_size s ⟨#[105, 110, 103]⟩
  have m2 := mend_size (cut s ⟨#[101, 100]⟩)
  have m3 := mend_size (cut s ⟨#[105, 110, 103]⟩)
  have k1 : (⟨#[101, 101, 100]⟩ : ByteArray).size = 3 := rfl
  have k2 : (⟨#[101, 100]⟩ : ByteArray).size = 2 := rfl
  have k3 : (⟨#[105, 110, 103]⟩ : ByteArray).size = 3 := rfl
  have k4 : (⟨#[101, 101]⟩ : ByteArray).size = 2 := rfl
  split
  · rename_i h
    obtain ⟨_, q, hq, hs⟩ := bst_lt s L1b 3 0 h
    have hq' : q = (⟨#[101, 101, 100]⟩, ⟨#[101, 101]⟩) := Option.some.inj (hq.symm.trans rfl)
    subst hq'
    have := sfx_le hs
    split
    · rw [ByteArray.size_append]; simp only at this; omega
    · omega
  · split
    · rename_i h
      obtain ⟨_, q, hq, hs⟩ := bst_lt s L1b 3 1 h
      have hq' : q = (⟨#[101, 100]⟩, ⟨#[]⟩) := Option.some.inj (hq.symm.trans rfl)
      subst hq'
      have := sfx_le hs
      simp only at this
      split <;> omega
    · split
      · rename_i h
        obtain ⟨_, q, hq, hs⟩ := bst_lt s L1b 3 2 h
        have hq' : q = (⟨#[105, 110, 103]⟩, ⟨#[]⟩) := Option.some.inj (hq.symm.trans rfl)
        subst hq'
        have := sfx_le hs
        simp only at this
        split <;> omega
      · omega
theorem s1b_pos {s : ByteArray} (h : 0 < s.size) : 0 < (s1b s).size := by
  unfold s1b
  have k4 : (⟨#[101, 101]⟩ : ByteArray).size = 2 := rfl
  split
  · split
    · rw [ByteArray.size_append]; omega
    · exact h
  · split
    · split
      · rename_i hv; exact mend_pos (hasV_pos hv)
      · exact h
    · split
      · split
        · rename_i hv; exact mend_pos (hasV_pos hv)
        · exact h
      · exact h
theorem s1c_le (s : ByteArray) : (s1c s).size ≤ s.size := by
  unfold s1c
  have c1 := cut_size s ⟨#[121]⟩
  have k1 : (⟨#[121]⟩ : ByteArray).size = 1 := rfl
  have k2 : (⟨#[105]⟩ : ByteArray).size = 1 := rfl
  split
  · rename_i h
    simp only [Bool.and_eq_true] at h
    have := sfx_le h.1
    rw [ByteArray.size_append]; omega
  · omega
theorem s1c_pos {s : ByteArray} (h : 0 < s.size) : 0 < (s1c s).size := by
  unfold s1c
  have k2 : (⟨#[105]⟩ : ByteArray).size = 1 := rfl
  split
  · rw [ByteArray.size_append]; omega
  · exact h
theorem s4_le (s : ByteArray) : (s4 s).size ≤ s.size := by
  unfold s4
  split
  · omega
  · exact rep_le (by decide)
theorem s4_pos {s : ByteArray} (h : 0 < s.size) : 0 < (s4 s).size := by
  unfold s4
  split
  · exact h
  · exact rep_pos h
theorem s5a_pos {s : ByteArray} (h : 0 < s.size) : 0 < (s5a s).size := by
  unfold s5a
  have := meas_le (cut s ⟨#[101]⟩)
  split
  · rename_i hc
    simp only [Bool.and_eq_true, Bool.or_eq_true, decide_eq_true_eq, beq_iff_eq] at hc
    omega
  · exact h
theorem s5b_le (s : ByteArray) : (s5b s).size ≤ s.size := by
  unfold s5b
  split
  · rw [chop_size]; omega
  · omega
theorem s5b_pos {s : ByteArray} (h : 0 < s.size) : 0 < (s5b s).size := by
  unfold s5b
  have := meas_le s
  split
  · rename_i hc
    simp only [Bool.and_eq_true, decide_eq_true_eq] at hc
    rw [chop_size]; omega
  · exact h
theorem poss_pos {s : ByteArray} (h : 0 < s.size) : 0 < (poss s).size := by
  unfold poss
  have c1 := cut_size s ⟨#[39, 115]⟩
  have k1 : (⟨#[39, 115]⟩ : ByteArray).size = 2 := rfl
  split
  · rename_i hc
    simp only [Bool.and_eq_true, decide_eq_true_eq] at hc
    omega
  · exact h

theorem stem_le (s : ByteArray) : (stem s).size ≤ s.size := by
  have e0 := poss_size s
  unfold stem
  split
  · exact e0
  · split
    · have a1 := s1a_le (poss s)
      have a2 := s1b_le (s1a (poss s))
      have a3 := s1c_le (s1b (s1a (poss s)))
      have a4 : (rep (s1c (s1b (s1a (poss s)))) L2 0).size ≤ _ := rep_le (by decide)
      have a5 : (rep (rep (s1c (s1b (s1a (poss s)))) L2 0) L3 0).size ≤ _ := rep_le (by decide)
      have a6 := s4_le (rep (rep (s1c (s1b (s1a (poss s)))) L2 0) L3 0)
      have a7 := s5a_size (s4 (rep (rep (s1c (s1b (s1a (poss s)))) L2 0) L3 0))
      have a8 := s5b_le (s5a (s4 (rep (rep (s1c (s1b (s1a (poss s)))) L2 0) L3 0)))
      omega
    · exact e0
theorem stem_pos {s : ByteArray} (h : 0 < s.size) : 0 < (stem s).size := by
  have e0 := poss_pos h
  unfold stem
  split
  · exact e0
  · split
    · exact s5b_pos (s5a_pos (s4_pos (rep_pos (rep_pos (s1c_pos (s1b_pos (s1a_pos (by omega))))))))
    · exact e0
end Go.Proofs.YtkcfgcdlnojaeaaGreatDoor.PluralPlain
