/-
  An argument that is a list of calls (Op), read as data, in cells.
-/
import Derived.Test.YtmddnilephneiaaOpenHits
namespace Go.Proofs.Ytmddnilephneiaa.OpenOps
open Go.ChangeShapes Go.WideShapes Go.Deep HitPlain Base HitBase OpenHits

abbrev Op := Int × Int × Hit
def opC (o : Op) : List Value := [.int .i64 o.1, .int .i64 o.2.1, .int .i64 o.2.2.1, .int .u64 o.2.2.2]
def oc : List Op → List Value
  | [] => []
  | o :: r => opC o ++ oc r
theorem oc_len : ∀ l : List Op, (oc l).length = l.length * 4
  | [] => rfl
  | o :: r => by simp only [oc, List.length_append, oc_len r, opC, List.length_cons, List.length_nil]; omega
theorem oc_at : ∀ (l : List Op) (j i : Nat) (o : Op), l[j]? = some o → i < 4 → (oc l)[j * 4 + i]? = (opC o)[i]?
  | [], _, _, _, h, _ => by simp at h
  | x :: r, 0, i, o, h, hi => by
    simp only [List.getElem?_cons_zero, Option.some.injEq] at h
    subst h
    simp only [oc]
    rw [List.getElem?_append_left (by simp [opC]; omega)]
    simp
  | x :: r, j + 1, i, o, h, hi => by
    simp only [List.getElem?_cons_succ] at h
    simp only [oc]
    rw [List.getElem?_append_right (by simp [opC]; omega)]
    have := oc_at r j i o h hi
    rw [← this]
    congr 1
    simp [opC]; omega

theorem cellsOp : Try.prog.cellsOf 31 = 4 := by kernel_rfl
theorem bytesOp : Try.prog.bytesOf 31 = 32 := by kernel_rfl

section
variable {H : Type} {enc : TypeId × Value → H} {w : World} {base : Nat} {spare : Nat → Bool} {held : Bool}

theorem open_op {fuel : Nat} {cs : List Value} {x : DataW H × List MemPlace} (h : DataW.trod enc Try.prog w base spare held fuel 31 cs = some x) :
    ∃ y : Op, cs = opC y ∧ (Lit.int .i64 y.1).wf = true ∧ (Lit.int .i64 y.2.1).wf = true := by
  obtain ⟨xs, n, _, _, hlen, hxl, hf⟩ := DataW.trod_struct Try.underlying31 h
  rw [cellsOp] at hlen
  match cs, hlen, xs, hxl with
  | [a, b, c, d], _, [y0, y1, y2], _ =>
    have h0 := hf 0 _ rfl
    have h1 := hf 1 _ rfl
    have h2 := hf 2 _ rfl
    change DataW.trod enc Try.prog w base spare held n 3 (([a, b, c, d].drop 0).take (Try.prog.cellsOf 3)) = _ at h0
    change DataW.trod enc Try.prog w base spare held n 3 (([a, b, c, d].drop 1).take (Try.prog.cellsOf 3)) = _ at h1
    change DataW.trod enc Try.prog w base spare held n 29 (([a, b, c, d].drop 2).take (Try.prog.cellsOf 29)) = _ at h2
    rw [cellsInt] at h0 h1
    rw [cellsHit] at h2
    obtain ⟨n0, e0, _, w0⟩ := DataW.trod_int Try.underlying3 (h0.trans rfl)
    obtain ⟨n1, e1, _, w1⟩ := DataW.trod_int Try.underlying3 (h1.trans rfl)
    obtain ⟨y, e2⟩ := open_hit (h2.trans rfl)
    refine ⟨(n0, n1, y), ?_, w0, w1⟩
    simp at e0 e1
    simp [hitC] at e2
    simp [opC, e0, e1, e2]

/-- A list of calls. -/
theorem open_ops {fuel : Nat} {cs : List Value} {x : DataW H × List MemPlace} (h : DataW.trod enc Try.prog w base spare held fuel 22 cs = some x) :
    ∃ (A : Option Addr) (c : Nat) (L : List Op), cs = [.slice A L.length c] ∧ (Slc w w.heap.size A (oc L) ∧ ∀ o ∈ L, (Lit.int .i64 o.1).wf = true ∧ (Lit.int .i64 o.2.1).wf = true) ∧ ((x.1 = .nil ∧ L = []) ∨ ∃ es sp, x.1 = .slice es sp ∧ es.length = L.length) := by
  rcases open_slice Try.underlying22 h with ⟨rfl, rfl⟩ | ⟨a, len, cap, m, n, D, Pl, rfl, hb, hl, hm, hmm, rfl, hi⟩
  · exact ⟨none, 0, [], rfl, ⟨Slc.nil _, by simp⟩, .inl ⟨rfl, rfl⟩⟩
  · have each : ∀ i, i < len → ∃ y : Op, (∀ j u, (opC y)[j]? = some u → w.cell? (a.add (i * 4 + j)) = some u) ∧ (Lit.int .i64 y.1).wf = true ∧ (Lit.int .i64 y.2.1).wf = true := by
      intro i hil
      have him : i < m := by rw [hmm]; split <;> omega
      obtain ⟨cs', hc', ht'⟩ := hi i him
      rw [cellsOp] at hc'
      obtain ⟨y, rfl, hw⟩ := open_op ht'
      refine ⟨y, fun j u hu => ?_, hw⟩
      rw [← add_add]
      exact cells_at hc' j u hu
    obtain ⟨f, hf⟩ : ∃ f : Nat → Op, ∀ i, i < len → (∀ j u, (opC (f i))[j]? = some u → w.cell? (a.add (i * 4 + j)) = some u) ∧ (Lit.int .i64 (f i).1).wf = true ∧ (Lit.int .i64 (f i).2.1).wf = true :=
      ⟨fun i => if hx : i < len then (each i hx).choose else default, fun i hil => by simp only [dif_pos hil]; exact (each i hil).choose_spec⟩
    refine ⟨some a, cap, (List.range len).map f, by simp, ⟨?_, ?_⟩, .inr ⟨_, _, rfl, by simp⟩⟩
    · intro hne
      have hlen : 0 < len := by
        rcases Nat.eq_zero_or_pos len with h0 | h0
        · subst h0; exact absurd rfl hne
        · exact h0
      obtain ⟨g, o, spot⟩ := a
      have hc0 := (hf 0 hlen).1 0 _ rfl
      have hspot : spot = none := by simpa [Addr.add] using World.cell?_spot hc0
      subst hspot
      rw [add_of] at hc0
      refine ⟨g, o, rfl, World.block_lt_of_cell? w _ hc0, fun j u hu => ?_⟩
      have hj := (List.getElem?_eq_some_iff.1 hu).1
      rw [oc_len, List.length_map, List.length_range] at hj
      have hj2 : j / 4 < len := by omega
      have hx : ((List.range len).map f)[j / 4]? = some (f (j / 4)) := by rw [List.getElem?_map, List.getElem?_range hj2]; rfl
      rw [← add_of]
      have e : j = j / 4 * 4 + j % 4 := by omega
      have := oc_at _ _ (j % 4) _ hx (Nat.mod_lt _ (by omega))
      rw [← e] at this
      rw [this] at hu
      have := (hf (j / 4) hj2).1 (j % 4) u hu
      rwa [← e] at this
    · intro y hy
      obtain ⟨i, hi', rfl⟩ := List.mem_map.1 hy
      exact (hf i (by simpa using hi')).2
end
end Go.Proofs.Ytmddnilephneiaa.OpenOps
