/-
  An argument that is a list of lists of hits, read as data, with its bulk; a hit by value.
-/
import Derived.Test.YtmddnilephneiaaOpenHits
import Derived.Test.YtmddnilephneiaaTopkWalk
import Derived.Test.YtmddnilephneiaaRows
namespace Go.Proofs.Ytmddnilephneiaa.OpenLists
open Go.ChangeShapes Go.WideShapes Go.Deep HitPlain Base HitBase OpenHits TopkWalk

theorem cellsRow : Try.prog.cellsOf 26 = 1 := by kernel_rfl

theorem bulk_pos {H : Type} (d : DataW H) : 1 ≤ Rows.uptoBulk d := by
  cases d with
  | lit l => cases l <;> simp [Rows.uptoBulk]
  | _ => simp [Rows.uptoBulk]
theorem bulk_len {H : Type} : ∀ l : List (DataW H), l.length ≤ Rows.uptoBulkAll l
  | [] => Nat.zero_le _
  | d :: r => by
    have h1 := bulk_pos d
    have h2 := bulk_len r
    simp only [Rows.uptoBulkAll, List.length_cons]
    omega
theorem bulk_app {H : Type} : ∀ a b : List (DataW H), Rows.uptoBulkAll (a ++ b) = Rows.uptoBulkAll a + Rows.uptoBulkAll b
  | [], b => by simp [Rows.uptoBulkAll]
  | d :: r, b => by simp only [List.cons_append, Rows.uptoBulkAll, bulk_app r b]; omega
theorem bulk_one {H : Type} (d : DataW H) : Rows.uptoBulkAll [d] = Rows.uptoBulk d := by simp [Rows.uptoBulkAll]

section
variable {H : Type} {enc : TypeId × Value → H} {w : World} {base : Nat} {spare : Nat → Bool} {held : Bool}

theorem hits_shape {L : List Hit} {d : DataW H} (h : (d = .nil ∧ L = []) ∨ ∃ es sp, d = .slice es sp ∧ es.length = L.length) : L.length + 1 ≤ Rows.uptoBulk d := by
  rcases h with ⟨rfl, rfl⟩ | ⟨es, sp, rfl, e⟩
  · simp [Rows.uptoBulk]
  · have := bulk_len es
    simp only [Rows.uptoBulk]
    omega

theorem open_hits_bulk {fuel : Nat} {cs : List Value} {x : DataW H × List MemPlace} (h : DataW.trod enc Try.prog w base spare held fuel 26 cs = some x) :
    ∃ (A : Option Addr) (c : Nat) (L : List Hit), cs = [.slice A L.length c] ∧ Slc w w.heap.size A (hc L) ∧ L.length + 1 ≤ Rows.uptoBulk x.1 := by
  obtain ⟨A, c, L, h1, h2, h3⟩ := open_hits h
  exact ⟨A, c, L, h1, h2, hits_shape h3⟩

theorem bulk_sum {D : Nat → DataW H} {f : Nat → Lst} : ∀ n : Nat, (∀ i, i < n → (f i).2.2.length + 1 ≤ Rows.uptoBulk (D i)) → n + (allHits ((List.range n).map f)).length ≤ Rows.uptoBulkAll ((List.range n).map D)
  | 0, _ => by simp [allHits, Rows.uptoBulkAll]
  | n + 1, h => by
    have ih := bulk_sum (D := D) (f := f) n (fun i hi => h i (by omega))
    have := h n (by omega)
    rw [List.range_succ, List.map_append, List.map_append, bulk_app, List.map_singleton, List.map_singleton, bulk_one, allHits_snoc, List.length_append]
    omega

/-- A list of lists of hits. -/
theorem open_lists_bulk {fuel : Nat} {cs : List Value} {x : DataW H × List MemPlace} (h : DataW.trod enc Try.prog w base spare held fuel 39 cs = some x) :
    ∃ (A : Option Addr) (c : Nat) (ls : List Lst), cs = [.slice A ls.length c] ∧ Lsts w w.heap.size A ls ∧ ls.length + (allHits ls).length ≤ Rows.uptoBulk x.1 := by
  rcases open_slice1 Try.underlying39 cellsRow h with ⟨rfl, rfl⟩ | ⟨a, len, cap, m, n, V, D, Pl, rfl, hb, hl, hm, hmm, rfl, hi⟩
  · exact ⟨none, 0, [], rfl, ⟨Slc.nil _, by simp⟩, by simp [allHits]⟩
  · have each : ∀ i, i < len → ∃ y : Lst, V i = lv y ∧ w.cell? (a.add i) = some (V i) ∧ Slc w w.heap.size y.1 (hc y.2.2) ∧ y.2.2.length + 1 ≤ Rows.uptoBulk (D i) := by
      intro i hil
      have him : i < m := by rw [hmm]; split <;> omega
      obtain ⟨hc', ht'⟩ := hi i him
      obtain ⟨A, c, L, h1, h2, h3⟩ := open_hits_bulk ht'
      exact ⟨(A, c, L), by unfold lv; simpa using h1, hc', h2, h3⟩
    obtain ⟨f, hf⟩ : ∃ f : Nat → Lst, ∀ i, i < len → V i = lv (f i) ∧ w.cell? (a.add i) = some (V i) ∧ Slc w w.heap.size (f i).1 (hc (f i).2.2) ∧ (f i).2.2.length + 1 ≤ Rows.uptoBulk (D i) :=
      ⟨fun i => if hx : i < len then (each i hx).choose else default, fun i hil => by simp only [dif_pos hil]; exact (each i hil).choose_spec⟩
    refine ⟨some a, cap, (List.range len).map f, by simp, ⟨?_, ?_⟩, ?_⟩
    · intro hne
      have hlen : 0 < len := by
        rcases Nat.eq_zero_or_pos len with h0 | h0
        · subst h0; exact absurd rfl hne
        · exact h0
      obtain ⟨g, o, spot⟩ := a
      have hc0 := (hf 0 hlen).2.1
      have hspot : spot = none := by simpa [Addr.add] using World.cell?_spot hc0
      subst hspot
      rw [add_of] at hc0
      refine ⟨g, o, rfl, World.block_lt_of_cell? w _ hc0, fun j u hu => ?_⟩
      have hj := (List.getElem?_eq_some_iff.1 hu).1
      simp only [List.length_map, List.length_range] at hj
      have h1 := (hf j hj).2.1
      rw [add_of] at h1
      rw [h1, (hf j hj).1]
      rw [List.getElem?_map, List.getElem?_map, List.getElem?_range hj] at hu
      simpa using hu
    · intro y hy
      obtain ⟨i, hi', rfl⟩ := List.mem_map.1 hy
      exact (hf i (by simpa using hi')).2.2.1
    · have := bulk_sum (D := D) (f := f) len (fun i hil => (hf i hil).2.2.2)
      simp only [Rows.uptoBulk, List.length_map, List.length_range]
      omega

/-- A hit by value. -/
theorem open_hitv {r : Reach} {b0 : Nat} {v : Value} {d : DataW H} {ps : List MemPlace} (hval : Value.okWide Try.prog w r b0 29 v) (hd : DataW.Trod enc Try.prog w base spare held 29 v d ps) :
    ∃ y : Hit, v = .agg #[.int .i64 y.1, .int .u64 y.2] := by
  obtain ⟨cs, rfl, hsz⟩ := okWide_struct Try.underlying29 hval
  obtain ⟨m, hm⟩ := hd
  obtain ⟨y, hy⟩ := open_hit hm
  refine ⟨y, ?_⟩
  rw [cellsHit] at hsz
  match cs, hsz with
  | ⟨[a, b]⟩, _ =>
    simp [Value.cells, hitC] at hy
    obtain ⟨rfl, rfl⟩ := hy
    rfl
end
end Go.Proofs.Ytmddnilephneiaa.OpenLists
