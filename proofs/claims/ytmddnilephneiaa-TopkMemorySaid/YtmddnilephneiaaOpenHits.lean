/-
  An argument that is a list of hits, read as data, in cells.
-/
import Derived.Test.YtmddnilephneiaaHitBase
import Derived.Deep.Slices
import Derived.Deep.Fields
import Derived.ChangeSame
import Derived.SizedLaws
namespace Go.Proofs.Ytmddnilephneiaa.OpenHits
open Go.ChangeShapes Go.WideShapes Go.Deep HitPlain Base HitBase

theorem cellsHit : Try.prog.cellsOf 29 = 2 := by kernel_rfl
theorem cellsInt : Try.prog.cellsOf 3 = 1 := by kernel_rfl
theorem cellsU64 : Try.prog.cellsOf 27 = 1 := by kernel_rfl
theorem bytesHit : Try.checked.prog.bytesOf 29 = 16 := by kernel_rfl

section
variable {H : Type} {enc : TypeId × Value → H} {w : World} {base : Nat} {spare : Nat → Bool} {held : Bool}

/-- One hit's cells. -/
theorem open_hit {fuel : Nat} {cs : List Value} {x : DataW H × List MemPlace} (h : DataW.trod enc Try.prog w base spare held fuel 29 cs = some x) : ∃ y : Hit, cs = hitC y := by
  obtain ⟨xs, n, _, _, hlen, hxl, hf⟩ := DataW.trod_struct Try.underlying29 h
  rw [cellsHit] at hlen
  match cs, hlen, xs, hxl with
  | [a, b], _, [y0, y1], _ =>
    have h0 := hf 0 _ rfl
    have h1 := hf 1 _ rfl
    change DataW.trod enc Try.prog w base spare held n 3 (([a, b].drop 0).take (Try.prog.cellsOf 3)) = _ at h0
    change DataW.trod enc Try.prog w base spare held n 27 (([a, b].drop 1).take (Try.prog.cellsOf 27)) = _ at h1
    rw [cellsInt] at h0
    rw [cellsU64] at h1
    obtain ⟨n0, e0, _⟩ := DataW.trod_int Try.underlying3 (h0.trans rfl)
    obtain ⟨n1, e1, _⟩ := DataW.trod_int Try.underlying27 (h1.trans rfl)
    refine ⟨(n0, n1), ?_⟩
    simp at e0 e1
    simp [hitC, e0, e1]

theorem cells_at {a : Addr} {n : Nat} {cs : List Value} (h : w.cells? base a n = some cs) : ∀ i u, cs[i]? = some u → w.cell? (a.add i) = some u := by
  obtain ⟨_, hl, hat⟩ := World.cells?_some h
  intro i u hu
  have hi : i < n := by have := (List.getElem?_eq_some_iff.1 hu).1; omega
  rw [hat i hi, hu]

theorem add_of {g o i : Nat} : (⟨g, o, none⟩ : Addr).add i = ⟨g, o + i, none⟩ := by
  unfold Addr.add
  by_cases h : i = 0
  · subst h; simp
  · simp [h]

/-- A list of hits. -/
theorem open_hits {fuel : Nat} {cs : List Value} {x : DataW H × List MemPlace} (h : DataW.trod enc Try.prog w base spare held fuel 26 cs = some x) :
    ∃ (A : Option Addr) (c : Nat) (L : List Hit), cs = [.slice A L.length c] ∧ Slc w w.heap.size A (hc L) ∧ ((x.1 = .nil ∧ L = []) ∨ ∃ es sp, x.1 = .slice es sp ∧ es.length = L.length) := by
  rcases open_slice Try.underlying26 h with ⟨rfl, rfl⟩ | ⟨a, len, cap, m, n, D, Pl, rfl, hb, hl, hm, hmm, rfl, hi⟩
  · exact ⟨none, 0, [], rfl, Slc.nil _, .inl ⟨rfl, rfl⟩⟩
  · have each : ∀ i, i < len → ∃ y : Hit, ∀ j u, (hitC y)[j]? = some u → w.cell? (a.add (i * 2 + j)) = some u := by
      intro i hil
      have him : i < m := by rw [hmm]; split <;> omega
      obtain ⟨cs', hc', ht'⟩ := hi i him
      rw [cellsHit] at hc'
      obtain ⟨y, rfl⟩ := open_hit ht'
      refine ⟨y, fun j u hu => ?_⟩
      rw [← add_add]
      exact cells_at hc' j u hu
    obtain ⟨f, hf⟩ : ∃ f : Nat → Hit, ∀ i, i < len → ∀ j u, (hitC (f i))[j]? = some u → w.cell? (a.add (i * 2 + j)) = some u :=
      ⟨fun i => if hx : i < len then (each i hx).choose else default, fun i hil => by simp only [dif_pos hil]; exact (each i hil).choose_spec⟩
    refine ⟨some a, cap, (List.range len).map f, by simp, ?_, .inr ⟨_, _, rfl, by simp⟩⟩
    intro hne
    have hlen : 0 < len := by
      rcases Nat.eq_zero_or_pos len with h0 | h0
      · subst h0; exact absurd rfl hne
      · exact h0
    obtain ⟨g, o, spot⟩ := a
    have hc0 := hf 0 hlen 0 _ rfl
    have hspot : spot = none := by simpa [Addr.add] using World.cell?_spot hc0
    subst hspot
    rw [add_of] at hc0
    refine ⟨g, o, rfl, World.block_lt_of_cell? w _ hc0, fun j u hu => ?_⟩
    have hj := (List.getElem?_eq_some_iff.1 hu).1
    rw [hc_len, List.length_map, List.length_range] at hj
    have hj2 : j / 2 < len := by omega
    have hx : ((List.range len).map f)[j / 2]? = some (f (j / 2)) := by rw [List.getElem?_map, List.getElem?_range hj2]; rfl
    rw [← add_of]
    rcases Nat.mod_two_eq_zero_or_one j with h2 | h2
    · have e : j = j / 2 * 2 := by omega
      have := hc_at0 _ _ _ hx
      rw [← e] at this
      rw [this] at hu
      injection hu with hu
      subst hu
      have := hf (j / 2) hj2 0 _ rfl
      rwa [Nat.add_zero, ← e] at this
    · have e : j = j / 2 * 2 + 1 := by omega
      have := hc_at1 _ _ _ hx
      rw [← e] at this
      rw [this] at hu
      injection hu with hu
      subst hu
      have := hf (j / 2) hj2 1 _ rfl
      rwa [← e] at this
end
end Go.Proofs.Ytmddnilephneiaa.OpenHits
