/-
  Arguments that are lists of structs, read as data, in cells, with their bulk: a schema, the values of a document.
  An argument that is a query, read as data, in cells; what it holds is no more than the datum.
  An argument that is a node, read as data, in cells; what it holds is no more than the datum.
  An argument that is a node: its lists have the room that their lengths want.
-/
import Derived.Test.YtkcfgcdlnojaeaaGreatDoorDQry
import Derived.Test.YtkcfgcdlnojaeaaGreatDoorDSchema
import Derived.Test.YtkcfgcdlnojaeaaGreatDoorRows
import Derived.Test.YtkcfgcdlnojaeaaGreatDoorDTextP
import Derived.Deep.Slices
import Derived.Deep.Fields
import Derived.ChangeSame
import Derived.SizedLaws
import Derived.Test.YtkcfgcdlnojaeaaGreatDoorDNodT
import Derived.Test.YtkcfgcdlnojaeaaGreatDoorKeepsAny
set_option linter.unusedVariables false
set_option linter.unusedSimpArgs false
namespace Go.Proofs.YtkcfgcdlnojaeaaGreatDoor.OpenSchema
set_option maxRecDepth 100000
open Go.ChangeShapes Go.WideShapes Go.Deep Base OpenField FieldPlain

theorem add_of {g o i : Nat} : (⟨g, o, none⟩ : Addr).add i = ⟨g, o + i, none⟩ := by
  unfold Addr.add
  by_cases h : i = 0
  · subst h; simp
  · simp [h]
theorem flat_len {α : Type} {C : α → List Value} {sz : Nat} (hC : ∀ y, (C y).length = sz) : ∀ l : List α, (l.flatMap C).length = l.length * sz
  | [] => by simp
  | y :: r => by rw [List.flatMap_cons, List.length_append, flat_len hC r, hC, List.length_cons, Nat.succ_mul]; omega
theorem flat_at {α : Type} {C : α → List Value} {sz : Nat} (hC : ∀ y, (C y).length = sz) : ∀ (l : List α) (k j : Nat) (y : α), l[k]? = some y → j < sz → (l.flatMap C)[k * sz + j]? = (C y)[j]?
  | [], _, _, _, h, _ => by simp at h
  | x :: r, 0, j, y, h, hj => by
    simp only [List.getElem?_cons_zero, Option.some.injEq] at h
    subst h
    rw [List.flatMap_cons, List.getElem?_append_left (by rw [hC]; omega), Nat.zero_mul, Nat.zero_add]
  | x :: r, k + 1, j, y, h, hj => by
    simp only [List.getElem?_cons_succ] at h
    have e : (k + 1) * sz = k * sz + sz := Nat.succ_mul _ _
    rw [List.flatMap_cons, List.getElem?_append_right (by rw [hC, e]; omega), hC, ← flat_at hC r k j y h hj]
    congr 1
    omega

section
variable {H : Type} {enc : TypeId × Value → H} {w : World} {base : Nat} {spare : Nat → Bool} {held : Bool}

theorem bulk_range {D : Nat → DataW H} {f : Nat → Nat} : ∀ n : Nat, (∀ i, i < n → f i ≤ Rows.uptoBulk (D i)) → ((List.range n).map f).sum ≤ Rows.uptoBulkAll ((List.range n).map D)
  | 0, _ => by simp [Rows.uptoBulkAll]
  | n + 1, h => by
    have ih := bulk_range (D := D) (f := f) n (fun i hi => h i (by omega))
    have := h n (by omega)
    rw [List.range_succ, List.map_append, List.map_append, bulk_append, List.sum_append]
    simp only [List.map_cons, List.map_nil, List.sum_cons, List.sum_nil, Rows.uptoBulkAll]
    omega

theorem open_list {α : Type} [Inhabited α] {t e : TypeId} {sz : Nat} (hsz : 0 < sz) (ht : Tryz.prog.underlying t = some (.slice e)) (hce : Tryz.prog.cellsOf e = sz) (C : α → List Value) (hC : ∀ y, (C y).length = sz) (Q : α → Prop) (bk : α → Nat)
    (one : ∀ (fuel : Nat) (cs : List Value) (x : DataW H × List MemPlace), DataW.trod enc Tryz.prog w base spare held fuel e cs = some x → ∃ y : α, cs = C y ∧ Q y ∧ bk y ≤ Rows.uptoBulk x.1)
    {fuel : Nat} {cs : List Value} {x : DataW H × List MemPlace} (h : DataW.trod enc Tryz.prog w base spare held fuel t cs = some x) :
    ∃ (A : Option Addr) (c : Nat) (L : List α), cs = [.slice A L.length c] ∧ Slc w w.heap.size A (L.flatMap C) ∧ (∀ y ∈ L, Q y) ∧ (L.map bk).sum + 1 ≤ Rows.uptoBulk x.1 := by
  rcases open_slice ht h with ⟨rfl, rfl⟩ | ⟨a, len, cap, m, n, D, Pl, rfl, hb, hl, hm, hmm, rfl, hi⟩
  · exact ⟨none, 0, [], rfl, Slc.nil _, by simp, by simp [Rows.uptoBulk]⟩
  · have each : ∀ i, i < len → ∃ y : α, (∀ j u, (C y)[j]? = some u → w.cell? (a.add (i * sz + j)) = some u) ∧ Q y ∧ bk y ≤ Rows.uptoBulk (D i) := by
      intro i hil
      have him : i < m := by rw [hmm]; split <;> omega
      obtain ⟨cs', hc', ht'⟩ := hi i him
      rw [hce] at hc'
      obtain ⟨y, rfl, hw, hbk⟩ := one _ _ _ ht'
      refine ⟨y, fun j u hu => ?_, hw, hbk⟩
      rw [← add_add]
      obtain ⟨_, hl', hat⟩ := World.cells?_some hc'
      have hj : j < sz := by have := (List.getElem?_eq_some_iff.1 hu).1; omega
      rw [hat j hj, hu]
    obtain ⟨f, hf⟩ : ∃ f : Nat → α, ∀ i, i < len → (∀ j u, (C (f i))[j]? = some u → w.cell? (a.add (i * sz + j)) = some u) ∧ Q (f i) ∧ bk (f i) ≤ Rows.uptoBulk (D i) :=
      ⟨fun i => if hx : i < len then (each i hx).choose else default, fun i hil => by simp only [dif_pos hil]; exact (each i hil).choose_spec⟩
    refine ⟨some a, cap, (List.range len).map f, by simp, ?_, ?_, ?_⟩
    · intro hne
      have hlen : 0 < len := by
        rcases Nat.eq_zero_or_pos len with h0 | h0
        · subst h0; exact absurd rfl hne
        · exact h0
      obtain ⟨g, o, spot⟩ := a
      obtain ⟨u0, hu0⟩ : ∃ u, (C (f 0))[0]? = some u := ⟨_, List.getElem?_eq_getElem (by rw [hC]; exact hsz)⟩
      have hc0 := (hf 0 hlen).1 0 u0 hu0
      have hspot : spot = none := by simpa [Addr.add] using World.cell?_spot hc0
      subst hspot
      rw [add_of] at hc0
      refine ⟨g, o, rfl, World.block_lt_of_cell? w _ hc0, fun j u hu => ?_⟩
      have hj := (List.getElem?_eq_some_iff.1 hu).1
      rw [flat_len hC, List.length_map, List.length_range] at hj
      have hj2 : j / sz < len := (Nat.div_lt_iff_lt_mul hsz).2 hj
      have hx : ((List.range len).map f)[j / sz]? = some (f (j / sz)) := by rw [List.getElem?_map, List.getElem?_range hj2]; rfl
      have hjm : j / sz * sz + j % sz = j := by rw [Nat.mul_comm]; exact Nat.div_add_mod j sz
      have h2 := flat_at hC _ _ (j % sz) _ hx (Nat.mod_lt _ hsz)
      rw [hjm, hu] at h2
      have h3 := (hf (j / sz) hj2).1 (j % sz) u h2.symm
      rw [hjm, add_of] at h3
      exact h3
    · intro y hy
      obtain ⟨i, hi', rfl⟩ := List.mem_map.1 hy
      exact (hf i (by simpa using hi')).2.1
    · have := bulk_range (D := D) (f := fun i => bk (f i)) len (fun i hil => (hf i hil).2.2)
      simp only [Rows.uptoBulk, List.map_map]
      have e : (List.range len).map (bk ∘ f) = (List.range len).map fun i => bk (f i) := rfl
      rw [e]
      omega

theorem fld_flat (fs : List Fld) : fs.flatMap fldC = fldCells fs := by
  induction fs with
  | nil => rfl
  | cons v r ih => rw [List.flatMap_cons, ih]; rfl
theorem str_bulk {y : DataW H × List MemPlace} {s : ByteArray} (h : y = (.lit (.string s.data.toList), [])) : s.size + 1 = Rows.uptoBulk y.1 := by
  rw [h]
  simp only [Rows.uptoBulk]
  rw [Array.length_toList]
  rfl
theorem open_fldB {fuel : Nat} {cs : List Value} {x : DataW H × List MemPlace} (h : DataW.trod enc Tryz.prog w base spare held fuel 67 cs = some x) :
    ∃ y : Fld, cs = fldC y ∧ (Lit.int .i64 y.kd).wf = true ∧ y.nm.size ≤ maxLen ∧ y.nm.size + 2 ≤ Rows.uptoBulk x.1 := by
  obtain ⟨xs, n, _, hx, hlen, hxl, hf⟩ := DataW.trod_struct Tryz.underlying67 h
  rw [cellsField] at hlen
  match cs, hlen, xs, hxl with
  | [a, b, c, d, e], _, [y0, y1, y2, y3, y4], _ =>
    have h0 := hf 0 _ rfl
    have h1 := hf 1 _ rfl
    have h2 := hf 2 _ rfl
    have h3 := hf 3 _ rfl
    have h4 := hf 4 _ rfl
    change DataW.trod enc Tryz.prog w base spare held n 9 (([a, b, c, d, e].drop 0).take (Tryz.prog.cellsOf 9)) = _ at h0
    change DataW.trod enc Tryz.prog w base spare held n 3 (([a, b, c, d, e].drop 1).take (Tryz.prog.cellsOf 3)) = _ at h1
    change DataW.trod enc Tryz.prog w base spare held n 4 (([a, b, c, d, e].drop 2).take (Tryz.prog.cellsOf 4)) = _ at h2
    change DataW.trod enc Tryz.prog w base spare held n 4 (([a, b, c, d, e].drop 3).take (Tryz.prog.cellsOf 4)) = _ at h3
    change DataW.trod enc Tryz.prog w base spare held n 4 (([a, b, c, d, e].drop 4).take (Tryz.prog.cellsOf 4)) = _ at h4
    rw [cellsStr] at h0
    rw [cellsInt] at h1
    rw [cellsBool] at h2 h3 h4
    obtain ⟨s0, e0, g0, z0⟩ := DataW.trod_string Tryz.underlying9 (h0.trans rfl)
    obtain ⟨n1, e1, _, w1⟩ := DataW.trod_int Tryz.underlying3 (h1.trans rfl)
    obtain ⟨b2, e2, _⟩ := DataW.trod_bool Tryz.underlying4 (h2.trans rfl)
    obtain ⟨b3, e3, _⟩ := DataW.trod_bool Tryz.underlying4 (h3.trans rfl)
    obtain ⟨b4, e4, _⟩ := DataW.trod_bool Tryz.underlying4 (h4.trans rfl)
    refine ⟨⟨s0, n1, b2, b3, b4⟩, ?_, w1, z0, ?_⟩
    rotate_left
    · have k0 := str_bulk g0
      have k1 := one_le y1.1
      rw [hx]
      simp only [List.map_cons, List.map_nil, Rows.uptoBulk, Rows.uptoBulkAll]
      omega
    simp at e0 e1 e2 e3 e4
    simp [fldC, e0, e1, e2, e3, e4]

theorem mem_sum {α : Type} (g : α → Nat) : ∀ (l : List α) {y : α}, y ∈ l → g y ≤ (l.map g).sum
  | v :: r, y, h => by
    rw [List.map_cons, List.sum_cons]
    rcases List.mem_cons.1 h with rfl | h
    · omega
    · have := mem_sum g r h; omega
theorem len_sum {α : Type} (g : α → Nat) (hg : ∀ y, 1 ≤ g y) : ∀ l : List α, l.length ≤ (l.map g).sum
  | [] => Nat.le_refl _
  | v :: r => by
    have := len_sum g hg r
    have := hg v
    rw [List.map_cons, List.sum_cons, List.length_cons]
    omega
theorem open_schemaN {r : Reach} {b0 : Nat} {v : Value} {d : DataW H} {ps : List MemPlace} (hval : Value.okWide Tryz.prog w r b0 36 v) (hd : DataW.Trod enc Tryz.prog w base spare held 36 v d ps) :
    ∃ (A : Option Addr) (c : Nat) (fs : List Fld), v = .agg #[.slice A fs.length c] ∧ (Slc w w.heap.size A (fldCells fs) ∧ ∀ f ∈ fs, (Lit.int .i64 f.kd).wf = true ∧ f.nm.size ≤ maxLen) ∧ (fs.length ≤ Rows.uptoBulk d ∧ ∀ f ∈ fs, f.nm.size + 2 ≤ Rows.uptoBulk d) := by
  obtain ⟨cs, rfl, hsz⟩ := okWide_struct Tryz.underlying36 hval
  obtain ⟨m, hm⟩ := hd
  obtain ⟨xs, n, _, hx1, hlen, hxl, hf⟩ := DataW.trod_struct Tryz.underlying36 hm
  have hc1 : Tryz.prog.cellsOf 36 = 1 := by kernel_rfl
  have hc2 : Tryz.prog.cellsOf 34 = 1 := by kernel_rfl
  rw [hc1] at hlen hsz
  match cs, hsz, xs, hxl, hx1 with
  | ⟨[a]⟩, _, [y0], _, hx1 =>
    have h0 := hf 0 _ rfl
    change DataW.trod enc Tryz.prog w base spare held n 34 (([a].drop 0).take (Tryz.prog.cellsOf 34)) = _ at h0
    rw [hc2] at h0
    obtain ⟨A, c, L, hcs, hs, hq, hbk⟩ := open_list (sz := 5) (by decide) Tryz.underlying34 cellsField fldC (fun _ => rfl) (fun f => (Lit.int .i64 f.kd).wf = true ∧ f.nm.size ≤ maxLen) (fun f => f.nm.size + 2)
      (fun _ _ x h => by obtain ⟨y, e, hw⟩ := open_fldB h; exact ⟨y, e, ⟨hw.1, hw.2.1⟩, hw.2.2⟩) (h0.trans rfl)
    simp at hcs
    subst hcs
    rw [fld_flat] at hs
    have hl := len_sum (fun f : Fld => f.nm.size + 2) (fun f => by omega) L
    refine ⟨A, c, L, rfl, ⟨hs, hq⟩, ?_⟩
    have hd' : d = .agg [y0.1] := by simpa using congrArg Prod.fst hx1
    subst hd'
    simp only [Rows.uptoBulk, Rows.uptoBulkAll]
    exact ⟨by omega, fun f hf => by have h2 : f.nm.size + 2 ≤ (L.map fun f => f.nm.size + 2).sum := mem_sum (fun f : Fld => f.nm.size + 2) L hf; omega⟩
end
end Go.Proofs.YtkcfgcdlnojaeaaGreatDoor.OpenSchema

namespace Go.Proofs.YtkcfgcdlnojaeaaGreatDoor.OpenQueryB
set_option maxRecDepth 100000
open Go.ChangeShapes Go.WideShapes Go.Deep Base Query TextLine

instance : Inhabited Qry := ⟨.mk ⟨0, 0, ByteArray.empty, [], [], 0, 0, default, default, []⟩ []⟩
theorem cellsQ : Tryz.prog.cellsOf 29 = 15 := by kernel_rfl
theorem cellsB : Tryz.prog.cellsOf 26 = 3 := by kernel_rfl
theorem cellsStr : Tryz.prog.cellsOf 9 = 1 := by kernel_rfl
theorem cellsInt : Tryz.prog.cellsOf 3 = 1 := by kernel_rfl
theorem cellsU : Tryz.prog.cellsOf 24 = 1 := by kernel_rfl
theorem cellsBool : Tryz.prog.cellsOf 4 = 1 := by kernel_rfl
theorem cellsSS : Tryz.prog.cellsOf 22 = 1 := by kernel_rfl
theorem cellsSI : Tryz.prog.cellsOf 23 = 1 := by kernel_rfl
theorem cellsSQ : Tryz.prog.cellsOf 27 = 1 := by kernel_rfl

theorem add_of {g o i : Nat} : (⟨g, o, none⟩ : Addr).add i = ⟨g, o + i, none⟩ := by
  unfold Addr.add
  by_cases h : i = 0
  · subst h; simp
  · simp [h]

section
variable {H : Type} {enc : TypeId × Value → H} {w : World} {base : Nat} {spare : Nat → Bool} {held : Bool}

theorem open_rel {α : Type} [Inhabited α] {t e : TypeId} {sz : Nat} (hsz : 0 < sz) (ht : Tryz.prog.underlying t = some (.slice e)) (hce : Tryz.prog.cellsOf e = sz) (R : List Value → α → Prop) (M : α → Nat) (hR : ∀ cs y, R cs y → cs.length = sz)
    {fuel : Nat} {cs : List Value} {x : DataW H × List MemPlace}
    (one : ∀ (fuel : Nat) (cs : List Value) (y : DataW H × List MemPlace), SizeOf.sizeOf y.1 < SizeOf.sizeOf x.1 → DataW.trod enc Tryz.prog w base spare held fuel e cs = some y → ∃ z : α, R cs z ∧ M z ≤ Rows.uptoBulk y.1)
    (h : DataW.trod enc Tryz.prog w base spare held fuel t cs = some x) :
    ∃ (A : Option Addr) (c : Nat) (L : List α) (f : Nat → List Value), cs = [.slice A L.length c] ∧ L.length ≤ maxLen ∧ (A = none → L.length = 0 ∧ c = 0) ∧
      (L ≠ [] → ∃ g o, A = some ⟨g, o, none⟩ ∧ g < w.heap.size ∧ ∀ i, i < L.length → ∀ j u, (f i)[j]? = some u → w.cell? ⟨g, o + i * sz + j, none⟩ = some u) ∧ (∀ i k, L[i]? = some k → R (f i) k) ∧ (L.map M).sum + 1 ≤ Rows.uptoBulk x.1 := by
  rcases open_slice ht h with ⟨rfl, rfl⟩ | ⟨a, len, cap, m, n, D, Pl, rfl, hb, hl, hm, hmm, rfl, hi⟩
  · exact ⟨none, 0, [], fun _ => [], rfl, by simp, fun _ => ⟨rfl, rfl⟩, fun h => absurd rfl h, fun i k h => by simp at h, by simp [Rows.uptoBulk]⟩
  · have each : ∀ i, i < len → ∃ (z : α) (l : List Value), (R l z ∧ M z ≤ Rows.uptoBulk (D i)) ∧ ∀ j u, l[j]? = some u → w.cell? (a.add (i * sz + j)) = some u := by
      intro i hil
      have him : i < m := by rw [hmm]; split <;> omega
      obtain ⟨cs', hc', ht'⟩ := hi i him
      rw [hce] at hc'
      have hsz' : SizeOf.sizeOf (D i) < SizeOf.sizeOf (DataW.slice ((List.range len).map D) ((List.range (m - len)).map fun j => D (len + j))) := by
        have h1 := List.sizeOf_lt_of_mem (List.mem_map.2 ⟨i, List.mem_range.2 hil, rfl⟩ : D i ∈ (List.range len).map D)
        simp only [DataW.slice.sizeOf_spec]
        omega
      obtain ⟨z, hz⟩ := one _ _ _ hsz' ht'
      refine ⟨z, cs', hz, fun j u hu => ?_⟩
      rw [← add_add]
      obtain ⟨_, hl', hat⟩ := World.cells?_some hc'
      have hj : j < sz := by have := (List.getElem?_eq_some_iff.1 hu).1; omega
      rw [hat j hj, hu]
    obtain ⟨z, l, hzl⟩ : ∃ (z : Nat → α) (l : Nat → List Value), ∀ i, i < len → (R (l i) (z i) ∧ M (z i) ≤ Rows.uptoBulk (D i)) ∧ ∀ j u, (l i)[j]? = some u → w.cell? (a.add (i * sz + j)) = some u :=
      ⟨fun i => if hx : i < len then (each i hx).choose else default, fun i => if hx : i < len then (each i hx).choose_spec.choose else [], fun i hil => by simp only [dif_pos hil]; exact (each i hil).choose_spec.choose_spec⟩
    refine ⟨some a, cap, (List.range len).map z, l, by simp, by simp; omega, fun h => (by cases h), fun hne => ?_, fun i k hk => ?_, ?_⟩
    · have hlen : 0 < len := by
        rcases Nat.eq_zero_or_pos len with h0 | h0
        · subst h0; exact absurd rfl hne
        · exact h0
      obtain ⟨g, o, spot⟩ := a
      have hl0 := hR _ _ (hzl 0 hlen).1.1
      obtain ⟨u0, hu0⟩ : ∃ u, (l 0)[0]? = some u := ⟨_, List.getElem?_eq_getElem (by omega)⟩
      have hc0 := (hzl 0 hlen).2 0 u0 hu0
      have hspot : spot = none := by simpa [Addr.add] using World.cell?_spot hc0
      subst hspot
      rw [add_of] at hc0
      refine ⟨g, o, rfl, World.block_lt_of_cell? w _ hc0, fun i hi' j u hu => ?_⟩
      have h3 := (hzl i (by simpa using hi')).2 j u hu
      rw [add_of, ← Nat.add_assoc] at h3
      exact h3
    · rw [List.getElem?_map] at hk
      obtain ⟨i', hi', rfl⟩ := Option.map_eq_some_iff.1 hk
      have hil := (List.getElem?_eq_some_iff.1 hi').1
      rw [List.length_range] at hil
      rw [List.getElem?_range hil] at hi'
      cases hi'
      exact (hzl i hil).1.1
    · have key : ∀ n, n ≤ len → (((List.range n).map z).map M).sum ≤ Rows.uptoBulkAll ((List.range n).map D) := by
        intro n
        induction n with
        | zero => intro _; simp [Rows.uptoBulkAll]
        | succ n ih =>
          intro hn
          have h1 := ih (by omega)
          have h2 := (hzl n (by omega)).1.2
          rw [List.range_succ, List.map_append, List.map_append, List.sum_append, List.map_append, OpenField.bulk_append]
          simp only [List.map_cons, List.map_nil, List.sum_cons, List.sum_nil, Rows.uptoBulkAll]
          omega
      have := key len (Nat.le_refl _)
      simp only [Rows.uptoBulk]
      omega

theorem open_one {α : Type} [Inhabited α] {t e : TypeId} (ht : Tryz.prog.underlying t = some (.slice e)) (hce : Tryz.prog.cellsOf e = 1) (V : α → Value) (Q : α → Prop) (M : α → Nat) {fuel : Nat} {cs : List Value} {x : DataW H × List MemPlace}
    (one : ∀ (fuel : Nat) (cs : List Value) (y : DataW H × List MemPlace), DataW.trod enc Tryz.prog w base spare held fuel e cs = some y → ∃ z : α, cs = [V z] ∧ Q z ∧ M z ≤ Rows.uptoBulk y.1)
    (h : DataW.trod enc Tryz.prog w base spare held fuel t cs = some x) :
    ∃ (A : Option Addr) (c : Nat) (L : List α), cs = [.slice A L.length c] ∧ L.length ≤ maxLen ∧ (A = none → L.length = 0 ∧ c = 0) ∧ Slc w w.heap.size A (L.map V) ∧ (∀ z ∈ L, Q z) ∧ (L.map M).sum + 1 ≤ Rows.uptoBulk x.1 := by
  obtain ⟨A, c, L, f, h1, h2, h3, h4, h5, h6⟩ := open_rel (R := fun cs z => cs = [V z] ∧ Q z) (M := M) (by decide) ht hce (fun cs z hz => by rw [hz.1]; rfl) (fun fuel cs y _ hy => by obtain ⟨z, q1, q2, q3⟩ := one fuel cs y hy; exact ⟨z, ⟨q1, q2⟩, q3⟩) h
  refine ⟨A, c, L, h1, h2, h3, fun hne => ?_, fun z hz => ?_, h6⟩
  · obtain ⟨g, o, e1, hg, hc⟩ := h4 (by intro h; subst h; exact hne rfl)
    refine ⟨g, o, e1, hg, fun j u hu => ?_⟩
    rw [List.getElem?_map] at hu
    obtain ⟨z, hz, rfl⟩ := Option.map_eq_some_iff.1 hu
    have := hc j (List.getElem?_eq_some_iff.1 hz).1 0 (V z) (by rw [(h5 j z hz).1]; rfl)
    simpa using this
  · obtain ⟨i, hi⟩ := List.getElem?_of_mem hz
    exact (h5 i z hi).2

theorem str_bulk {y : DataW H × List MemPlace} {s : ByteArray} (h : y = (.lit (.string s.data.toList), [])) : s.size + 1 = Rows.uptoBulk y.1 := by
  rw [h]
  simp only [Rows.uptoBulk]
  rw [Array.length_toList]
  rfl
theorem bulks_sum : ∀ l : List Qry, (l.map bulk).sum = bulks l
  | [] => rfl
  | q :: r => by simp only [List.map_cons, List.sum_cons, bulks, bulks_sum r]
theorem ones_sum : ∀ l : List Int, (l.map fun _ => (1 : Nat)).sum = l.length
  | [] => rfl
  | q :: r => by simp only [List.map_cons, List.sum_cons, ones_sum r, List.length_cons]; omega
theorem open_bnd {fuel : Nat} {cs : List Value} {x : DataW H × List MemPlace} (h : DataW.trod enc Tryz.prog w base spare held fuel 26 cs = some x) : ∃ b : Bnd, cs = bndC b ∧ b.text.size ≤ Rows.uptoBulk x.1 := by
  obtain ⟨xs, n, _, hx, hlen, hxl, hf⟩ := DataW.trod_struct Tryz.underlying26 h
  rw [cellsB] at hlen
  match cs, hlen, xs, hxl with
  | [a, b, c], _, [y0, y1, y2], _ =>
    have h0 := hf 0 _ rfl
    have h1 := hf 1 _ rfl
    have h2 := hf 2 _ rfl
    change DataW.trod enc Tryz.prog w base spare held n 4 (([a, b, c].drop 0).take (Tryz.prog.cellsOf 4)) = _ at h0
    change DataW.trod enc Tryz.prog w base spare held n 4 (([a, b, c].drop 1).take (Tryz.prog.cellsOf 4)) = _ at h1
    change DataW.trod enc Tryz.prog w base spare held n 9 (([a, b, c].drop 2).take (Tryz.prog.cellsOf 9)) = _ at h2
    rw [cellsBool] at h0 h1
    rw [cellsStr] at h2
    obtain ⟨b0, e0, _⟩ := DataW.trod_bool Tryz.underlying4 (h0.trans rfl)
    obtain ⟨b1, e1, _⟩ := DataW.trod_bool Tryz.underlying4 (h1.trans rfl)
    obtain ⟨s2, e2, q2, _⟩ := DataW.trod_string Tryz.underlying9 (h2.trans rfl)
    refine ⟨⟨b0, b1, s2⟩, ?_, ?_⟩
    · simp at e0 e1 e2
      simp [bndC, e0, e1, e2]
    · have h1 := OpenField.part_le (l := [y0, y1, y2].map (·.1)) (d := y2.1) (by simp)
      have h2 := str_bulk q2
      rw [hx]
      simp only [Rows.uptoBulk]
      omega
end
end Go.Proofs.YtkcfgcdlnojaeaaGreatDoor.OpenQueryB

namespace Go.Proofs.YtkcfgcdlnojaeaaGreatDoor.OpenNode
set_option maxRecDepth 100000
open Go.ChangeShapes Go.WideShapes Go.Deep Base Query NodeTree OpenQueryB

instance : Inhabited Nod := ⟨.mk ⟨0, ByteArray.empty, ByteArray.empty, 0, default, default, []⟩ []⟩
theorem cellsN : Tryz.prog.cellsOf 39 = 12 := by kernel_rfl
theorem cellsSN : Tryz.prog.cellsOf 37 = 1 := by kernel_rfl
theorem nbulks_sum : ∀ l : List Nod, (l.map Nod.bulk).sum = nbulks l
  | [] => rfl
  | q :: r => by simp only [List.map_cons, List.sum_cons, nbulks, nbulks_sum r]
section
variable {H : Type} {enc : TypeId × Value → H} {w : World} {base : Nat} {spare : Nat → Bool} {held : Bool}
set_option maxHeartbeats 1000000 in
theorem open_node : ∀ (N : Nat) (fuel : Nat) (cs : List Value) (x : DataW H × List MemPlace), SizeOf.sizeOf x.1 ≤ N → DataW.trod enc Tryz.prog w base spare held fuel 39 cs = some x → ∃ q : Nod, NVal w w.heap.size cs q ∧ q.bulk ≤ Rows.uptoBulk x.1
  | 0, fuel, cs, x, hN, h => by
    obtain ⟨xs, n, _, hx, _⟩ := DataW.trod_struct Tryz.underlying39 h
    subst hx
    simp only [DataW.agg.sizeOf_spec] at hN
    omega
  | N + 1, fuel, cs, x, hN, h => by
    obtain ⟨xs, n, _, hx, hlen, hxl, hf⟩ := DataW.trod_struct Tryz.underlying39 h
    rw [cellsN] at hlen
    match cs, hlen, xs, hxl with
    | [a0, a1, a2, a3, a4, a5, a6, a7, a8, a9, a10, a11], _, [y0, y1, y2, y3, y4, y5, y6, y7], _ =>
      have h0 := hf 0 _ rfl
      have h1 := hf 1 _ rfl
      have h2 := hf 2 _ rfl
      have h3 := hf 3 _ rfl
      have h4 := hf 4 _ rfl
      have h5 := hf 5 _ rfl
      have h6 := hf 6 _ rfl
      have h7 := hf 7 _ rfl
      change DataW.trod enc Tryz.prog w base spare held n 3 ([a0, a1, a2, a3, a4, a5, a6, a7, a8, a9, a10, a11].drop 0 |>.take (Tryz.prog.cellsOf 3)) = _ at h0
      change DataW.trod enc Tryz.prog w base spare held n 9 ([a0, a1, a2, a3, a4, a5, a6, a7, a8, a9, a10, a11].drop 1 |>.take (Tryz.prog.cellsOf 9)) = _ at h1
      change DataW.trod enc Tryz.prog w base spare held n 9 ([a0, a1, a2, a3, a4, a5, a6, a7, a8, a9, a10, a11].drop 2 |>.take (Tryz.prog.cellsOf 9)) = _ at h2
      change DataW.trod enc Tryz.prog w base spare held n 3 ([a0, a1, a2, a3, a4, a5, a6, a7, a8, a9, a10, a11].drop 3 |>.take (Tryz.prog.cellsOf 3)) = _ at h3
      change DataW.trod enc Tryz.prog w base spare held n 26 ([a0, a1, a2, a3, a4, a5, a6, a7, a8, a9, a10, a11].drop 4 |>.take (Tryz.prog.cellsOf 26)) = _ at h4
      change DataW.trod enc Tryz.prog w base spare held n 26 ([a0, a1, a2, a3, a4, a5, a6, a7, a8, a9, a10, a11].drop 7 |>.take (Tryz.prog.cellsOf 26)) = _ at h5
      change DataW.trod enc Tryz.prog w base spare held n 23 ([a0, a1, a2, a3, a4, a5, a6, a7, a8, a9, a10, a11].drop 10 |>.take (Tryz.prog.cellsOf 23)) = _ at h6
      change DataW.trod enc Tryz.prog w base spare held n 37 ([a0, a1, a2, a3, a4, a5, a6, a7, a8, a9, a10, a11].drop 11 |>.take (Tryz.prog.cellsOf 37)) = _ at h7
      rw [cellsInt] at h0 h3
      rw [cellsStr] at h1 h2
      rw [cellsB] at h4 h5
      rw [cellsSI] at h6
      rw [cellsSN] at h7
      obtain ⟨n0, e0, _, w0⟩ := DataW.trod_int Tryz.underlying3 (h0.trans rfl)
      obtain ⟨s1, e1, b1, z1⟩ := DataW.trod_string Tryz.underlying9 (h1.trans rfl)
      obtain ⟨s2, e2, b2, z2⟩ := DataW.trod_string Tryz.underlying9 (h2.trans rfl)
      obtain ⟨n3, e3, _, w3⟩ := DataW.trod_int Tryz.underlying3 (h3.trans rfl)
      obtain ⟨b4, e4, k4⟩ := open_bnd (h4.trans rfl)
      obtain ⟨b5, e5, k5⟩ := open_bnd (h5.trans rfl)
      obtain ⟨A6, c6, L6, e6, l6, _, sl6, q6, b6⟩ := open_one (V := Value.int .i64) (Q := fun o => (Lit.int .i64 o).wf = true) (M := fun _ => 1) Tryz.underlying23 cellsInt (fun fuel cs y hy => by obtain ⟨s, e, _, z⟩ := DataW.trod_int Tryz.underlying3 hy; exact ⟨s, e, z, OpenField.one_le _⟩) (h6.trans rfl)
      have hs7 : SizeOf.sizeOf y7.1 < SizeOf.sizeOf x.1 := by
        rw [hx]
        have h1 := List.sizeOf_lt_of_mem (by simp : y7.1 ∈ [y0, y1, y2, y3, y4, y5, y6, y7].map (·.1))
        simp only [DataW.agg.sizeOf_spec]
        omega
      obtain ⟨A7, c7, L7, f7, e7, l7, _, q7, v7, b7⟩ := open_rel (R := fun cs q => NVal w w.heap.size cs q) (M := Nod.bulk) (by decide) Tryz.underlying37 cellsN (fun cs q hq => hq.len) (fun fuel cs y hy ht => open_node N fuel cs y (by omega) ht) (h7.trans rfl)
      refine ⟨.mk ⟨n0, s1, s2, n3, b4, b5, L6⟩ L7, ?_, ?_⟩
      rotate_left
      · have g1 := str_bulk b1
        have g2 := str_bulk b2
        have g7 := nbulks_sum L7
        have g6 := ones_sum L6
        have w5 := OpenField.one_le y0.1
        rw [hx]
        simp only [List.map_cons, List.map_nil, Rows.uptoBulk, Rows.uptoBulkAll, Nod.bulk, nbulk]
        omega
      have key := NVal.mk (w := w) (B := w.heap.size) ⟨n0, s1, s2, n3, b4, b5, L6⟩ L7 A6 A7 c6 c7 f7 ⟨w0, w3, q6, l6⟩ l7 sl6 q7 v7
      simp at e0 e1 e2 e3 e4 e5 e6 e7
      simp [bndC] at e4 e5
      obtain ⟨r4, r5, r6⟩ := e4
      obtain ⟨r7, r8, r9⟩ := e5
      subst e0 e1 e2 e3 r4 r5 r6 r7 r8 r9 e6 e7
      exact key
theorem open_nodv {r : Reach} {b0 : Nat} {v : Value} {d : DataW H} {ps : List MemPlace} (hval : Value.okWide Tryz.prog w r b0 39 v) (hd : DataW.Trod enc Tryz.prog w base spare held 39 v d ps) :
    ∃ cs q, v = .agg (List.toArray cs) ∧ NVal w w.heap.size cs q ∧ q.bulk ≤ Rows.uptoBulk d := by
  obtain ⟨cs, rfl, hsz⟩ := okWide_struct Tryz.underlying39 hval
  obtain ⟨m, hm⟩ := hd
  obtain ⟨q, hq, hb⟩ := open_node _ m _ _ (Nat.le_refl _) hm
  exact ⟨cs.toList, q, rfl, hq, hb⟩
end
end Go.Proofs.YtkcfgcdlnojaeaaGreatDoor.OpenNode

namespace Go.Proofs.YtkcfgcdlnojaeaaGreatDoor.OpenCaps
set_option maxRecDepth 100000
open Go.ChangeShapes Go.WideShapes Go.Deep Base Query NodeTree OpenQueryB OpenNode KeepsAny

section
variable {H : Type} {enc : TypeId × Value → H} {w : World} {base : Nat} {spare : Nat → Bool} {held : Bool}
theorem slice_cap {t e : TypeId} (ht : Tryz.prog.underlying t = some (.slice e)) {fuel : Nat} {A : Option Addr} {m c : Nat} {x : DataW H × List MemPlace} (h : DataW.trod enc Tryz.prog w base spare held fuel t [.slice A m c] = some x) : m ≤ c := by
  rcases open_slice ht h with ⟨e1, _⟩ | ⟨a, len, cap, m', n, D, Pl, e1, _, hl, _⟩
  · simp only [List.cons.injEq, Value.slice.injEq, and_true] at e1
    omega
  · simp only [List.cons.injEq, Value.slice.injEq, and_true] at e1
    omega
theorem node_caps {fuel : Nat} {cs : List Value} {x : DataW H × List MemPlace} (h : DataW.trod enc Tryz.prog w base spare held fuel 39 cs = some x) : Caps cs := by
  obtain ⟨xs, n, _, hx, hlen, hxl, hf⟩ := DataW.trod_struct Tryz.underlying39 h
  rw [cellsN] at hlen
  match cs, hlen, xs, hxl with
  | [a0, a1, a2, a3, a4, a5, a6, a7, a8, a9, a10, a11], _, [y0, y1, y2, y3, y4, y5, y6, y7], _ =>
    have h6 := hf 6 _ rfl
    have h7 := hf 7 _ rfl
    change DataW.trod enc Tryz.prog w base spare held n 23 ([a0, a1, a2, a3, a4, a5, a6, a7, a8, a9, a10, a11].drop 10 |>.take (Tryz.prog.cellsOf 23)) = _ at h6
    change DataW.trod enc Tryz.prog w base spare held n 37 ([a0, a1, a2, a3, a4, a5, a6, a7, a8, a9, a10, a11].drop 11 |>.take (Tryz.prog.cellsOf 37)) = _ at h7
    rw [cellsSI] at h6
    rw [cellsSN] at h7
    intro A m c hA
    rcases hA with hA | hA
    · have : a10 = .slice A m c := by simpa using hA
      subst this
      exact slice_cap Tryz.underlying23 (h6.trans rfl)
    · have : a11 = .slice A m c := by simpa using hA
      subst this
      exact slice_cap Tryz.underlying37 (h7.trans rfl)
theorem open_nodc {r : Reach} {b0 : Nat} {v : Value} {d : DataW H} {ps : List MemPlace} (hval : Value.okWide Tryz.prog w r b0 39 v) (hd : DataW.Trod enc Tryz.prog w base spare held 39 v d ps) :
    ∃ cs q, v = .agg (List.toArray cs) ∧ (NVal w w.heap.size cs q ∧ Caps cs) ∧ q.bulk ≤ Rows.uptoBulk d := by
  obtain ⟨cs, rfl, hsz⟩ := okWide_struct Tryz.underlying39 hval
  obtain ⟨m, hm⟩ := hd
  obtain ⟨q, hq, hb⟩ := open_node _ m _ _ (Nat.le_refl _) hm
  exact ⟨cs.toList, q, rfl, ⟨hq, node_caps hm⟩, hb⟩
end
end Go.Proofs.YtkcfgcdlnojaeaaGreatDoor.OpenCaps
