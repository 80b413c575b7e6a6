/-
  How long the results of the stemmer's steps are; no program in sight.
-/
import Derived.Test.YtmoahflgcojfcaaDoorStemPlain
namespace Go.Proofs.YtmoahflgcojfcaaDoor.StemSize
open Go.PlainAid StemPlain

theorem rep_size {s : ByteArray} {L : PL} {m : Nat} (h : ∀ p ∈ L, p.2.size ≤ 10) : (rep s L m).size ≤ s.size + 10 := by
  unfold rep
  cases hl : lng s L with
  | none => simp
  | some p =>
    have hp : p ∈ L := by
      unfold lng at hl
      rw [Option.bind_eq_some_iff] at hl
      obtain ⟨j, _, hj⟩ := hl
      exact List.mem_of_getElem? hj
    have := h p hp
    have hc := cut_size s p.1
    simp only
    split
    · omega
    · rw [ByteArray.size_append]; omega
theorem sub_size {s : ByteArray} {L : PL} (h : ∀ p ∈ L, p.2.size ≤ 10) : (sub s L).size ≤ s.size + 10 := by
  unfold sub
  cases hl : lng s L with
  | none => simp
  | some p =>
    have hp : p ∈ L := by
      unfold lng at hl
      rw [Option.bind_eq_some_iff] at hl
      obtain ⟨j, _, hj⟩ := hl
      exact List.mem_of_getElem? hj
    have := h p hp
    have hc := cut_size s p.1
    simp only
    rw [ByteArray.size_append]; omega
theorem chop_size (s : ByteArray) : (chop s).size = s.size - 1 := by unfold chop; rw [ByteArray.size_extract]; omega
theorem mend_size (s : ByteArray) : (mend s).size ≤ s.size + 1 := by
  unfold mend
  split
  · rw [ByteArray.size_append]; exact Nat.le_refl _
  · split
    · rw [chop_size]; omega
    · split
      · rw [ByteArray.size_append]; exact Nat.le_refl _
      · omega
theorem s1a_size (s : ByteArray) : (s1a s).size ≤ s.size + 10 := sub_size (by decide)
theorem s1b_size (s : ByteArray) : (s1b s).size ≤ s.size + 10 := by
  unfold s1b
  have c1 := cut_size s ⟨#[101, 101, 100]⟩
  have c2 := cut_size s ⟨#[101, 100]⟩
  have c3 := cut_size s ⟨#[105, 110, 103]⟩
  have m2 := mend_size (cut s ⟨#[101, 100]⟩)
  have m3 := mend_size (cut s ⟨#[105, 110, 103]⟩)
  repeat' split
  all_goals (try rw [ByteArray.size_append])
  all_goals (try (have : (⟨#[101, 101]⟩ : ByteArray).size = 2 := rfl))
  all_goals omega
theorem s1c_size (s : ByteArray) : (s1c s).size ≤ s.size + 10 := by
  unfold s1c
  have c1 := cut_size s ⟨#[121]⟩
  split
  · rw [ByteArray.size_append]; have : (⟨#[105]⟩ : ByteArray).size = 1 := rfl; omega
  · omega
theorem s4_size (s : ByteArray) : (s4 s).size ≤ s.size + 10 := by
  unfold s4
  split
  · omega
  · exact rep_size (by decide)
theorem s5a_size (s : ByteArray) : (s5a s).size ≤ s.size := by
  unfold s5a
  have c1 := cut_size s ⟨#[101]⟩
  split <;> omega
theorem poss_size (s : ByteArray) : (poss s).size ≤ s.size := by
  unfold poss
  have c1 := cut_size s ⟨#[39, 115]⟩
  split <;> omega
end Go.Proofs.YtmoahflgcojfcaaDoor.StemSize
