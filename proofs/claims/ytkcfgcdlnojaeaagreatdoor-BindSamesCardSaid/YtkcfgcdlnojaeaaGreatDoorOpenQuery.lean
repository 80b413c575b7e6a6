/-
  An argument that is a query, read as data, in cells.
-/
import Derived.Test.YtkcfgcdlnojaeaaGreatDoorDQry
import Derived.Test.YtkcfgcdlnojaeaaGreatDoorRows
import Derived.Deep.Slices
import Derived.Deep.Fields
import Derived.ChangeSame
import Derived.SizedLaws
set_option linter.unusedVariables false
set_option linter.unusedSimpArgs false
namespace Go.Proofs.YtkcfgcdlnojaeaaGreatDoor.OpenQuery
set_option maxRecDepth 100000
open Go.ChangeShapes Go.WideShapes Go.Deep Base Query

instance : Inhabited Qry := ⟨.mk ⟨0, 0, ByteArray.empty, [], [], 0, 0, default, default, []⟩ []⟩
theorem cellsQ : Tryz.prog.cellsOf 29 = 15 := by kernel_rfl
theorem cellsB : Tryz.prog.cellsOf 26 = 3 := by kernel_rfl
theorem cellsStr : Tryz.prog.cellsOf 9 = 1 := by kernel_rfl
theorem cellsInt : Tryz.prog.cellsOf 3 = 1 := by kernel_rfl
theorem cellsU : Tryz.prog.cellsOf 24 = 1 := by kernel_rfl
theorem cellsBool : Tryz.prog.cellsOf 4 = 1 := by kernel_rfl
theorem cellsSS : Tryz.prog.cellsOf 22 = 1 := by kernel_rfl
theorem cellsSI : Tryz.prog.cellsOf 23 = 1 := by kernel_rfl
theorem cellsSQ : Tryz.prog.cellsOf 27 = 1 := by kernel_rfl

theorem add_of {g o i : Nat} : (⟨g, o, none⟩ : Addr).add i = ⟨g, o + i, none⟩ := by
  unfold Addr.add
  by_cases h : i = 0
  · subst h; simp
  · simp [h]

section
variable {H : Type} {enc : TypeId × Value → H} {w : World} {base : Nat} {spare : Nat → Bool} {held : Bool}

/-- A list of elements of sz cells, each of which holds what R tells. -/
theorem open_rel {α : Type} [Inhabited α] {t e : TypeId} {sz : Nat} (hsz : 0 < sz) (ht : Tryz.prog.underlying t = some (.slice e)) (hce : Tryz.prog.cellsOf e = sz) (R : List Value → α → Prop) (hR : ∀ cs y, R cs y → cs.length = sz)
    {fuel : Nat} {cs : List Value} {x : DataW H × List MemPlace}
    (one : ∀ (fuel : Nat) (cs : List Value) (y : DataW H × List MemPlace), SizeOf.sizeOf y.1 < SizeOf.sizeOf x.1 → DataW.trod enc Tryz.prog w base spare held fuel e cs = some y → ∃ z : α, R cs z)
    (h : DataW.trod enc Tryz.prog w base spare held fuel t cs = some x) :
    ∃ (A : Option Addr) (c : Nat) (L : List α) (f : Nat → List Value), cs = [.slice A L.length c] ∧ L.length ≤ maxLen ∧ (A = none → L.length = 0 ∧ c = 0) ∧
      (L ≠ [] → ∃ g o, A = some ⟨g, o, none⟩ ∧ g < w.heap.size ∧ ∀ i, i < L.length → ∀ j u, (f i)[j]? = some u → w.cell? ⟨g, o + i * sz + j, none⟩ = some u) ∧ ∀ i k, L[i]? = some k → R (f i) k := by
  rcases open_slice ht h with ⟨rfl, rfl⟩ | ⟨a, len, cap, m, n, D, Pl, rfl, hb, hl, hm, hmm, rfl, hi⟩
  · exact ⟨none, 0, [], fun _ => [], rfl, by simp, fun _ => ⟨rfl, rfl⟩, fun h => absurd rfl h, fun i k h => by simp at h⟩
  · have each : ∀ i, i < len → ∃ (z : α) (l : List Value), R l z ∧ ∀ j u, l[j]? = some u → w.cell? (a.add (i * sz + j)) = some u := by
      intro i hil
      have him : i < m := by rw [hmm]; split <;> omega
      obtain ⟨cs', hc', ht'⟩ := hi i him
      rw [hce] at hc'
      have hsz' : SizeOf.sizeOf (D i) < SizeOf.sizeOf (DataW.slice ((List.range len).map D) ((List.range (m - len)).map fun j => D (len + j))) := by
        have h1 := List.sizeOf_lt_of_mem (List.mem_map.2 ⟨i, List.mem_range.2 hil, rfl⟩ : D i ∈ (List.range len).map D)
        simp only [DataW.slice.sizeOf_spec]
        omega
      obtain ⟨z, hz⟩ := one _ _ _ hsz' ht'
      refine ⟨z, cs', hz, fun j u hu => ?_⟩
      rw [← add_add]
      obtain ⟨_, hl', hat⟩ := World.cells?_some hc'
      have hj : j < sz := by have := (List.getElem?_eq_some_iff.1 hu).1; omega
      rw [hat j hj, hu]
    obtain ⟨z, l, hzl⟩ : ∃ (z : Nat → α) (l : Nat → List Value), ∀ i, i < len → R (l i) (z i) ∧ ∀ j u, (l i)[j]? = some u → w.cell? (a.add (i * sz + j)) = some u :=
      ⟨fun i => if hx : i < len then (each i hx).choose else default, fun i => if hx : i < len then (each i hx).choose_spec.choose else [], fun i hil => by simp only [dif_pos hil]; exact (each i hil).choose_spec.choose_spec⟩
    refine ⟨some a, cap, (List.range len).map z, l, by simp, by simp; omega, fun h => (by cases h), fun hne => ?_, fun i k hk => ?_⟩
    · have hlen : 0 < len := by
        rcases Nat.eq_zero_or_pos len with h0 | h0
        · subst h0; exact absurd rfl hne
        · exact h0
      obtain ⟨g, o, spot⟩ := a
      have hl0 := hR _ _ (hzl 0 hlen).1
      obtain ⟨u0, hu0⟩ : ∃ u, (l 0)[0]? = some u := ⟨_, List.getElem?_eq_getElem (by omega)⟩
      have hc0 := (hzl 0 hlen).2 0 u0 hu0
      have hspot : spot = none := by simpa [Addr.add] using World.cell?_spot hc0
      subst hspot
      rw [add_of] at hc0
      refine ⟨g, o, rfl, World.block_lt_of_cell? w _ hc0, fun i hi' j u hu => ?_⟩
      have h3 := (hzl i (by simpa using hi')).2 j u hu
      rw [add_of, ← Nat.add_assoc] at h3
      exact h3
    · rw [List.getElem?_map] at hk
      obtain ⟨i', hi', rfl⟩ := Option.map_eq_some_iff.1 hk
      have hil := (List.getElem?_eq_some_iff.1 hi').1
      rw [List.length_range] at hil
      rw [List.getElem?_range hil] at hi'
      cases hi'
      exact (hzl i hil).1

/-- A list of values of one cell. -/
theorem open_one {α : Type} [Inhabited α] {t e : TypeId} (ht : Tryz.prog.underlying t = some (.slice e)) (hce : Tryz.prog.cellsOf e = 1) (V : α → Value) (Q : α → Prop) {fuel : Nat} {cs : List Value} {x : DataW H × List MemPlace}
    (one : ∀ (fuel : Nat) (cs : List Value) (y : DataW H × List MemPlace), DataW.trod enc Tryz.prog w base spare held fuel e cs = some y → ∃ z : α, cs = [V z] ∧ Q z)
    (h : DataW.trod enc Tryz.prog w base spare held fuel t cs = some x) :
    ∃ (A : Option Addr) (c : Nat) (L : List α), cs = [.slice A L.length c] ∧ L.length ≤ maxLen ∧ (A = none → L.length = 0 ∧ c = 0) ∧ Slc w w.heap.size A (L.map V) ∧ ∀ z ∈ L, Q z := by
  obtain ⟨A, c, L, f, h1, h2, h3, h4, h5⟩ := open_rel (R := fun cs z => cs = [V z] ∧ Q z) (by decide) ht hce (fun cs z hz => by rw [hz.1]; rfl) (fun fuel cs y _ hy => one fuel cs y hy) h
  refine ⟨A, c, L, h1, h2, h3, fun hne => ?_, fun z hz => ?_⟩
  · obtain ⟨g, o, e1, hg, hc⟩ := h4 (by intro h; subst h; exact hne rfl)
    refine ⟨g, o, e1, hg, fun j u hu => ?_⟩
    rw [List.getElem?_map] at hu
    obtain ⟨z, hz, rfl⟩ := Option.map_eq_some_iff.1 hu
    have := hc j (List.getElem?_eq_some_iff.1 hz).1 0 (V z) (by rw [(h5 j z hz).1]; rfl)
    simpa using this
  · obtain ⟨i, hi⟩ := List.getElem?_of_mem hz
    exact (h5 i z hi).2

theorem open_bnd {fuel : Nat} {cs : List Value} {x : DataW H × List MemPlace} (h : DataW.trod enc Tryz.prog w base spare held fuel 26 cs = some x) : ∃ b : Bnd, cs = bndC b := by
  obtain ⟨xs, n, _, _, hlen, hxl, hf⟩ := DataW.trod_struct Tryz.underlying26 h
  rw [cellsB] at hlen
  match cs, hlen, xs, hxl with
  | [a, b, c], _, [y0, y1, y2], _ =>
    have h0 := hf 0 _ rfl
    have h1 := hf 1 _ rfl
    have h2 := hf 2 _ rfl
    change DataW.trod enc Tryz.prog w base spare held n 4 (([a, b, c].drop 0).take (Tryz.prog.cellsOf 4)) = _ at h0
    change DataW.trod enc Tryz.prog w base spare held n 4 (([a, b, c].drop 1).take (Tryz.prog.cellsOf 4)) = _ at h1
    change DataW.trod enc Tryz.prog w base spare held n 9 (([a, b, c].drop 2).take (Tryz.prog.cellsOf 9)) = _ at h2
    rw [cellsBool] at h0 h1
    rw [cellsStr] at h2
    obtain ⟨b0, e0, _⟩ := DataW.trod_bool Tryz.underlying4 (h0.trans rfl)
    obtain ⟨b1, e1, _⟩ := DataW.trod_bool Tryz.underlying4 (h1.trans rfl)
    obtain ⟨s2, e2, _, _⟩ := DataW.trod_string Tryz.underlying9 (h2.trans rfl)
    refine ⟨⟨b0, b1, s2⟩, ?_⟩
    simp at e0 e1 e2
    simp [bndC, e0, e1, e2]

set_option maxHeartbeats 1000000 in
/-- A query's cells. -/
theorem open_query : ∀ (N : Nat) (fuel : Nat) (cs : List Value) (x : DataW H × List MemPlace), SizeOf.sizeOf x.1 ≤ N → DataW.trod enc Tryz.prog w base spare held fuel 29 cs = some x → ∃ q : Qry, QVal w w.heap.size cs q
  | 0, fuel, cs, x, hN, h => by
    obtain ⟨xs, n, _, hx, _⟩ := DataW.trod_struct Tryz.underlying29 h
    subst hx
    simp only [DataW.agg.sizeOf_spec] at hN
    omega
  | N + 1, fuel, cs, x, hN, h => by
    obtain ⟨xs, n, _, hx, hlen, hxl, hf⟩ := DataW.trod_struct Tryz.underlying29 h
    rw [cellsQ] at hlen
    match cs, hlen, xs, hxl with
    | [a0, a1, a2, a3, a4, a5, a6, a7, a8, a9, a10, a11, a12, a13, a14], _, [y0, y1, y2, y3, y4, y5, y6, y7, y8, y9, y10], _ =>
      have h0 := hf 0 _ rfl
      have h1 := hf 1 _ rfl
      have h2 := hf 2 _ rfl
      have h3 := hf 3 _ rfl
      have h4 := hf 4 _ rfl
      have h5 := hf 5 _ rfl
      have h6 := hf 6 _ rfl
      have h7 := hf 7 _ rfl
      have h8 := hf 8 _ rfl
      have h9 := hf 9 _ rfl
      have h10 := hf 10 _ rfl
      change DataW.trod enc Tryz.prog w base spare held n 3 ([a0, a1, a2, a3, a4, a5, a6, a7, a8, a9, a10, a11, a12, a13, a14].drop 0 |>.take (Tryz.prog.cellsOf 3)) = _ at h0
      change DataW.trod enc Tryz.prog w base spare held n 3 ([a0, a1, a2, a3, a4, a5, a6, a7, a8, a9, a10, a11, a12, a13, a14].drop 1 |>.take (Tryz.prog.cellsOf 3)) = _ at h1
      change DataW.trod enc Tryz.prog w base spare held n 9 ([a0, a1, a2, a3, a4, a5, a6, a7, a8, a9, a10, a11, a12, a13, a14].drop 2 |>.take (Tryz.prog.cellsOf 9)) = _ at h2
      change DataW.trod enc Tryz.prog w base spare held n 22 ([a0, a1, a2, a3, a4, a5, a6, a7, a8, a9, a10, a11, a12, a13, a14].drop 3 |>.take (Tryz.prog.cellsOf 22)) = _ at h3
      change DataW.trod enc Tryz.prog w base spare held n 23 ([a0, a1, a2, a3, a4, a5, a6, a7, a8, a9, a10, a11, a12, a13, a14].drop 4 |>.take (Tryz.prog.cellsOf 23)) = _ at h4
      change DataW.trod enc Tryz.prog w base spare held n 3 ([a0, a1, a2, a3, a4, a5, a6, a7, a8, a9, a10, a11, a12, a13, a14].drop 5 |>.take (Tryz.prog.cellsOf 3)) = _ at h5
      change DataW.trod enc Tryz.prog w base spare held n 24 ([a0, a1, a2, a3, a4, a5, a6, a7, a8, a9, a10, a11, a12, a13, a14].drop 6 |>.take (Tryz.prog.cellsOf 24)) = _ at h6
      change DataW.trod enc Tryz.prog w base spare held n 26 ([a0, a1, a2, a3, a4, a5, a6, a7, a8, a9, a10, a11, a12, a13, a14].drop 7 |>.take (Tryz.prog.cellsOf 26)) = _ at h7
      change DataW.trod enc Tryz.prog w base spare held n 26 ([a0, a1, a2, a3, a4, a5, a6, a7, a8, a9, a10, a11, a12, a13, a14].drop 10 |>.take (Tryz.prog.cellsOf 26)) = _ at h8
      change DataW.trod enc Tryz.prog w base spare held n 23 ([a0, a1, a2, a3, a4, a5, a6, a7, a8, a9, a10, a11, a12, a13, a14].drop 13 |>.take (Tryz.prog.cellsOf 23)) = _ at h9
      change DataW.trod enc Tryz.prog w base spare held n 27 ([a0, a1, a2, a3, a4, a5, a6, a7, a8, a9, a10, a11, a12, a13, a14].drop 14 |>.take (Tryz.prog.cellsOf 27)) = _ at h10
      rw [cellsInt] at h0 h1 h5
      rw [cellsStr] at h2
      rw [cellsSS] at h3
      rw [cellsSI] at h4 h9
      rw [cellsU] at h6
      rw [cellsB] at h7 h8
      rw [cellsSQ] at h10
      obtain ⟨n0, e0, _, w0⟩ := DataW.trod_int Tryz.underlying3 (h0.trans rfl)
      obtain ⟨n1, e1, _, w1⟩ := DataW.trod_int Tryz.underlying3 (h1.trans rfl)
      obtain ⟨s2, e2, _, z2⟩ := DataW.trod_string Tryz.underlying9 (h2.trans rfl)
      obtain ⟨A3, c3, L3, e3, l3, _, sl3, q3⟩ := open_one (V := Value.string) (Q := fun s => s.size ≤ maxLen) Tryz.underlying22 cellsStr (fun fuel cs y hy => by obtain ⟨s, e, _, z⟩ := DataW.trod_string Tryz.underlying9 hy; exact ⟨s, e, z⟩) (h3.trans rfl)
      obtain ⟨A4, c4, L4, e4, l4, _, sl4, q4⟩ := open_one (V := Value.int .i64) (Q := fun o => (Lit.int .i64 o).wf = true) Tryz.underlying23 cellsInt (fun fuel cs y hy => by obtain ⟨s, e, _, z⟩ := DataW.trod_int Tryz.underlying3 hy; exact ⟨s, e, z⟩) (h4.trans rfl)
      obtain ⟨n5, e5, _, w5⟩ := DataW.trod_int Tryz.underlying3 (h5.trans rfl)
      obtain ⟨n6, e6, _, w6⟩ := DataW.trod_int Tryz.underlying24 (h6.trans rfl)
      obtain ⟨b7, e7⟩ := open_bnd (h7.trans rfl)
      obtain ⟨b8, e8⟩ := open_bnd (h8.trans rfl)
      obtain ⟨A9, c9, L9, e9, l9, _, sl9, q9⟩ := open_one (V := Value.int .i64) (Q := fun o => (Lit.int .i64 o).wf = true) Tryz.underlying23 cellsInt (fun fuel cs y hy => by obtain ⟨s, e, _, z⟩ := DataW.trod_int Tryz.underlying3 hy; exact ⟨s, e, z⟩) (h9.trans rfl)
      have hs10 : SizeOf.sizeOf y10.1 < SizeOf.sizeOf x.1 := by
        rw [hx]
        have h1 := List.sizeOf_lt_of_mem (by simp : y10.1 ∈ [y0, y1, y2, y3, y4, y5, y6, y7, y8, y9, y10].map (·.1))
        simp only [DataW.agg.sizeOf_spec]
        omega
      obtain ⟨A10, c10, L10, f10, e10, l10, _, sl10, q10⟩ := open_rel (R := fun cs q => QVal w w.heap.size cs q) (by decide) Tryz.underlying27 cellsQ (fun cs q hq => hq.len) (fun fuel cs y hy ht => open_query N fuel cs y (by omega) ht) (h10.trans rfl)
      refine ⟨.mk ⟨n0, n1, s2, L3, L4, n5, n6, b7, b8, L9⟩ L10, ?_⟩
      have key := QVal.mk (w := w) (B := w.heap.size) ⟨n0, n1, s2, L3, L4, n5, n6, b7, b8, L9⟩ L10 A3 A4 A9 A10 c3 c4 c9 c10 f10 ⟨w0, w1, w5, w6, q4, q9, z2, q3, l3, l4, l9⟩ l10 sl3 sl4 sl9 sl10 q10
      simp at e0 e1 e2 e3 e4 e5 e6 e7 e8 e9 e10
      simp [bndC] at e7 e8
      obtain ⟨r7, r8, r9⟩ := e7
      obtain ⟨r10, r11, r12⟩ := e8
      subst e0 e1 e2 e3 e4 e5 e6 r7 r8 r9 r10 r11 r12 e9 e10
      exact key
end
end Go.Proofs.YtkcfgcdlnojaeaaGreatDoor.OpenQuery
