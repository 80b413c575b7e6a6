/-
  An argument that is a list of lists of hits, with the capacities.
-/
import Derived.Test.YtmddnilephneiaaOpenLists
import Derived.Test.YtmddnilephneiaaOpenCap
namespace Go.Proofs.Ytmddnilephneiaa.OpenLists2
open Go.ChangeShapes Go.WideShapes Go.Deep HitPlain Base HitBase OpenHits OpenCap OpenLists TopkWalk

section
variable {H : Type} {enc : TypeId × Value → H} {w : World} {base : Nat} {spare : Nat → Bool} {held : Bool}
/-- A list of lists of hits. -/
theorem open_lists_cap {fuel : Nat} {cs : List Value} {x : DataW H × List MemPlace} (h : DataW.trod enc Try.prog w base spare held fuel 39 cs = some x) :
    ∃ (A : Option Addr) (c : Nat) (ls : List Lst), cs = [.slice A ls.length c] ∧ (Lsts w w.heap.size A ls ∧ ∀ x ∈ ls, x.2.2.length ≤ x.2.1) ∧ ls.length + (allHits ls).length ≤ Rows.uptoBulk x.1 := by
  rcases open_slice1 Try.underlying39 cellsRow h with ⟨rfl, rfl⟩ | ⟨a, len, cap, m, n, V, D, Pl, rfl, hb, hl, hm, hmm, rfl, hi⟩
  · exact ⟨none, 0, [], rfl, ⟨⟨Slc.nil _, by simp⟩, by simp⟩, by simp [allHits]⟩
  · have each : ∀ i, i < len → ∃ y : Lst, V i = lv y ∧ w.cell? (a.add i) = some (V i) ∧ (Slc w w.heap.size y.1 (hc y.2.2) ∧ y.2.2.length ≤ y.2.1) ∧ y.2.2.length + 1 ≤ Rows.uptoBulk (D i) := by
      intro i hil
      have him : i < m := by rw [hmm]; split <;> omega
      obtain ⟨hc', ht'⟩ := hi i him
      obtain ⟨A, c, L, h1, h2, h3⟩ := open_hits_cap ht'
      exact ⟨(A, c, L), by unfold lv; simpa using h1, hc', h2, hits_shape h3⟩
    obtain ⟨f, hf⟩ : ∃ f : Nat → Lst, ∀ i, i < len → V i = lv (f i) ∧ w.cell? (a.add i) = some (V i) ∧ (Slc w w.heap.size (f i).1 (hc (f i).2.2) ∧ (f i).2.2.length ≤ (f i).2.1) ∧ (f i).2.2.length + 1 ≤ Rows.uptoBulk (D i) :=
      ⟨fun i => if hx : i < len then (each i hx).choose else default, fun i hil => by simp only [dif_pos hil]; exact (each i hil).choose_spec⟩
    refine ⟨some a, cap, (List.range len).map f, by simp, ⟨⟨?_, ?_⟩, ?_⟩, ?_⟩
    · intro hne
      have hlen : 0 < len := by
        rcases Nat.eq_zero_or_pos len with h0 | h0
        · subst h0; exact absurd rfl hne
        · exact h0
      obtain ⟨g, o, spot⟩ := a
      have hc0 := (hf 0 hlen).2.1
      have hspot : spot = none := by simpa [Addr.add] using World.cell?_spot hc0
      subst hspot
      rw [add_of] at hc0
      refine ⟨g, o, rfl, World.block_lt_of_cell? w _ hc0, fun j u hu => ?_⟩
      have hj := (List.getElem?_eq_some_iff.1 hu).1
      simp only [List.length_map, List.length_range] at hj
      have h1 := (hf j hj).2.1
      rw [add_of] at h1
      rw [h1, (hf j hj).1]
      rw [List.getElem?_map, List.getElem?_map, List.getElem?_range hj] at hu
      simpa using hu
    · intro y hy
      obtain ⟨i, hi', rfl⟩ := List.mem_map.1 hy
      exact (hf i (by simpa using hi')).2.2.1.1
    · intro y hy
      obtain ⟨i, hi', rfl⟩ := List.mem_map.1 hy
      exact (hf i (by simpa using hi')).2.2.1.2
    · have := bulk_sum (D := D) (f := f) len (fun i hil => (hf i hil).2.2.2)
      simp only [Rows.uptoBulk, List.length_map, List.length_range]
      omega

end
end Go.Proofs.Ytmddnilephneiaa.OpenLists2
