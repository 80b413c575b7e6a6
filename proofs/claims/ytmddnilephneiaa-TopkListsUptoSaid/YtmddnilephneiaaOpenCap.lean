/-
  An argument that is a list of hits, with its capacity.
-/
import Derived.Test.YtmddnilephneiaaOpenHits
namespace Go.Proofs.Ytmddnilephneiaa.OpenCap
open Go.ChangeShapes Go.WideShapes Go.Deep HitPlain Base HitBase OpenHits

section
variable {H : Type} {enc : TypeId × Value → H} {w : World} {base : Nat} {spare : Nat → Bool} {held : Bool}
theorem open_hits_cap {fuel : Nat} {cs : List Value} {x : DataW H × List MemPlace} (h : DataW.trod enc Try.prog w base spare held fuel 26 cs = some x) :
    ∃ (A : Option Addr) (c : Nat) (L : List Hit), cs = [.slice A L.length c] ∧ (Slc w w.heap.size A (hc L) ∧ L.length ≤ c) ∧ ((x.1 = .nil ∧ L = []) ∨ ∃ es sp, x.1 = .slice es sp ∧ es.length = L.length) := by
  obtain ⟨A, c, L, h1, h2, h3⟩ := open_hits h
  refine ⟨A, c, L, h1, ⟨h2, ?_⟩, h3⟩
  rcases open_slice Try.underlying26 h with ⟨e, _⟩ | ⟨a, len, cap, m, n, D, Pl, e, _, hl, _⟩
  · rw [h1] at e
    simp only [List.cons.injEq, Value.slice.injEq, and_true] at e
    omega
  · rw [h1] at e
    simp only [List.cons.injEq, Value.slice.injEq, and_true] at e
    omega
end
end Go.Proofs.Ytmddnilephneiaa.OpenCap
