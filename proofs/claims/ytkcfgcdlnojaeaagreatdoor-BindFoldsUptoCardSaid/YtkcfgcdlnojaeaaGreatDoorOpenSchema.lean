/-
  Arguments that are lists of structs, read as data, in cells, with their bulk: a schema, the values of a document.
-/
import Derived.Test.YtkcfgcdlnojaeaaGreatDoorDQry
import Derived.Test.YtkcfgcdlnojaeaaGreatDoorDSchema
import Derived.Test.YtkcfgcdlnojaeaaGreatDoorRows
set_option linter.unusedVariables false
set_option linter.unusedSimpArgs false
namespace Go.Proofs.YtkcfgcdlnojaeaaGreatDoor.OpenSchema
set_option maxRecDepth 100000
open Go.ChangeShapes Go.WideShapes Go.Deep Base OpenField FieldPlain

theorem add_of {g o i : Nat} : (⟨g, o, none⟩ : Addr).add i = ⟨g, o + i, none⟩ := by
  unfold Addr.add
  by_cases h : i = 0
  · subst h; simp
  · simp [h]
theorem flat_len {α : Type} {C : α → List Value} {sz : Nat} (hC : ∀ y, (C y).length = sz) : ∀ l : List α, (l.flatMap C).length = l.length * sz
  | [] => by simp
  | y :: r => by rw [List.flatMap_cons, List.length_append, flat_len hC r, hC, List.length_cons, Nat.succ_mul]; omega
theorem flat_at {α : Type} {C : α → List Value} {sz : Nat} (hC : ∀ y, (C y).length = sz) : ∀ (l : List α) (k j : Nat) (y : α), l[k]? = some y → j < sz → (l.flatMap C)[k * sz + j]? = (C y)[j]?
  | [], _, _, _, h, _ => by simp at h
  | x :: r, 0, j, y, h, hj => by
    simp only [List.getElem?_cons_zero, Option.some.injEq] at h
    subst h
    rw [List.flatMap_cons, List.getElem?_append_left (by rw [hC]; omega), Nat.zero_mul, Nat.zero_add]
  | x :: r, k + 1, j, y, h, hj => by
    simp only [List.getElem?_cons_succ] at h
    have e : (k + 1) * sz = k * sz + sz := Nat.succ_mul _ _
    rw [List.flatMap_cons, List.getElem?_append_right (by rw [hC, e]; omega), hC, ← flat_at hC r k j y h hj]
    congr 1
    omega

section
variable {H : Type} {enc : TypeId × Value → H} {w : World} {base : Nat} {spare : Nat → Bool} {held : Bool}

theorem bulk_range {D : Nat → DataW H} {f : Nat → Nat} : ∀ n : Nat, (∀ i, i < n → f i ≤ Rows.uptoBulk (D i)) → ((List.range n).map f).sum ≤ Rows.uptoBulkAll ((List.range n).map D)
  | 0, _ => by simp [Rows.uptoBulkAll]
  | n + 1, h => by
    have ih := bulk_range (D := D) (f := f) n (fun i hi => h i (by omega))
    have := h n (by omega)
    rw [List.range_succ, List.map_append, List.map_append, bulk_append, List.sum_append]
    simp only [List.map_cons, List.map_nil, List.sum_cons, List.sum_nil, Rows.uptoBulkAll]
    omega

/-- A list of structs of sz cells. -/
theorem open_list {α : Type} [Inhabited α] {t e : TypeId} {sz : Nat} (hsz : 0 < sz) (ht : Tryz.prog.underlying t = some (.slice e)) (hce : Tryz.prog.cellsOf e = sz) (C : α → List Value) (hC : ∀ y, (C y).length = sz) (Q : α → Prop) (bk : α → Nat)
    (one : ∀ (fuel : Nat) (cs : List Value) (x : DataW H × List MemPlace), DataW.trod enc Tryz.prog w base spare held fuel e cs = some x → ∃ y : α, cs = C y ∧ Q y ∧ bk y ≤ Rows.uptoBulk x.1)
    {fuel : Nat} {cs : List Value} {x : DataW H × List MemPlace} (h : DataW.trod enc Tryz.prog w base spare held fuel t cs = some x) :
    ∃ (A : Option Addr) (c : Nat) (L : List α), cs = [.slice A L.length c] ∧ Slc w w.heap.size A (L.flatMap C) ∧ (∀ y ∈ L, Q y) ∧ (L.map bk).sum + 1 ≤ Rows.uptoBulk x.1 := by
  rcases open_slice ht h with ⟨rfl, rfl⟩ | ⟨a, len, cap, m, n, D, Pl, rfl, hb, hl, hm, hmm, rfl, hi⟩
  · exact ⟨none, 0, [], rfl, Slc.nil _, by simp, by simp [Rows.uptoBulk]⟩
  · have each : ∀ i, i < len → ∃ y : α, (∀ j u, (C y)[j]? = some u → w.cell? (a.add (i * sz + j)) = some u) ∧ Q y ∧ bk y ≤ Rows.uptoBulk (D i) := by
      intro i hil
      have him : i < m := by rw [hmm]; split <;> omega
      obtain ⟨cs', hc', ht'⟩ := hi i him
      rw [hce] at hc'
      obtain ⟨y, rfl, hw, hbk⟩ := one _ _ _ ht'
      refine ⟨y, fun j u hu => ?_, hw, hbk⟩
      rw [← add_add]
      obtain ⟨_, hl', hat⟩ := World.cells?_some hc'
      have hj : j < sz := by have := (List.getElem?_eq_some_iff.1 hu).1; omega
      rw [hat j hj, hu]
    obtain ⟨f, hf⟩ : ∃ f : Nat → α, ∀ i, i < len → (∀ j u, (C (f i))[j]? = some u → w.cell? (a.add (i * sz + j)) = some u) ∧ Q (f i) ∧ bk (f i) ≤ Rows.uptoBulk (D i) :=
      ⟨fun i => if hx : i < len then (each i hx).choose else default, fun i hil => by simp only [dif_pos hil]; exact (each i hil).choose_spec⟩
    refine ⟨some a, cap, (List.range len).map f, by simp, ?_, ?_, ?_⟩
    · intro hne
      have hlen : 0 < len := by
        rcases Nat.eq_zero_or_pos len with h0 | h0
        · subst h0; exact absurd rfl hne
        · exact h0
      obtain ⟨g, o, spot⟩ := a
      obtain ⟨u0, hu0⟩ : ∃ u, (C (f 0))[0]? = some u := ⟨_, List.getElem?_eq_getElem (by rw [hC]; exact hsz)⟩
      have hc0 := (hf 0 hlen).1 0 u0 hu0
      have hspot : spot = none := by simpa [Addr.add] using World.cell?_spot hc0
      subst hspot
      rw [add_of] at hc0
      refine ⟨g, o, rfl, World.block_lt_of_cell? w _ hc0, fun j u hu => ?_⟩
      have hj := (List.getElem?_eq_some_iff.1 hu).1
      rw [flat_len hC, List.length_map, List.length_range] at hj
      have hj2 : j / sz < len := (Nat.div_lt_iff_lt_mul hsz).2 hj
      have hx : ((List.range len).map f)[j / sz]? = some (f (j / sz)) := by rw [List.getElem?_map, List.getElem?_range hj2]; rfl
      have hjm : j / sz * sz + j % sz = j := by rw [Nat.mul_comm]; exact Nat.div_add_mod j sz
      have h2 := flat_at hC _ _ (j % sz) _ hx (Nat.mod_lt _ hsz)
      rw [hjm, hu] at h2
      have h3 := (hf (j / sz) hj2).1 (j % sz) u h2.symm
      rw [hjm, add_of] at h3
      exact h3
    · intro y hy
      obtain ⟨i, hi', rfl⟩ := List.mem_map.1 hy
      exact (hf i (by simpa using hi')).2.1
    · have := bulk_range (D := D) (f := fun i => bk (f i)) len (fun i hil => (hf i hil).2.2)
      simp only [Rows.uptoBulk, List.map_map]
      have e : (List.range len).map (bk ∘ f) = (List.range len).map fun i => bk (f i) := rfl
      rw [e]
      omega

theorem fld_flat (fs : List Fld) : fs.flatMap fldC = fldCells fs := by
  induction fs with
  | nil => rfl
  | cons v r ih => rw [List.flatMap_cons, ih]; rfl
theorem ones_sum {α : Type} (l : List α) : (l.map fun _ => 1).sum = l.length := by
  induction l with
  | nil => rfl
  | cons v r ih => simp only [List.map_cons, List.sum_cons, ih, List.length_cons]; omega

theorem nil_slice {t e : TypeId} (ht : Tryz.prog.underlying t = some (.slice e)) {A : Option Addr} {n c : Nat} {d : DataW H} {ps : List MemPlace} (hd : DataW.Trod enc Tryz.prog w base spare held t (.slice A n c) d ps) : A = none → n = 0 ∧ c = 0 := by
  intro hA
  subst hA
  obtain ⟨m, hm⟩ := hd
  rcases open_slice ht hm with ⟨e1, _⟩ | ⟨a, len, cap, m', n', D, Pl, e1, _⟩
  · simp only [Value.cells, List.cons.injEq, Value.slice.injEq, and_true, true_and] at e1
    exact e1
  · simp [Value.cells] at e1

/-- A schema by value. -/
theorem open_schema {r : Reach} {b0 : Nat} {v : Value} {d : DataW H} {ps : List MemPlace} (hval : Value.okWide Tryz.prog w r b0 36 v) (hd : DataW.Trod enc Tryz.prog w base spare held 36 v d ps) :
    ∃ (A : Option Addr) (c : Nat) (fs : List Fld), v = .agg #[.slice A fs.length c] ∧ (Slc w w.heap.size A (fldCells fs) ∧ ∀ f ∈ fs, (Lit.int .i64 f.kd).wf = true ∧ f.nm.size ≤ maxLen) ∧ fs.length ≤ Rows.uptoBulk d := by
  obtain ⟨cs, rfl, hsz⟩ := okWide_struct Tryz.underlying36 hval
  obtain ⟨m, hm⟩ := hd
  obtain ⟨xs, n, _, hx1, hlen, hxl, hf⟩ := DataW.trod_struct Tryz.underlying36 hm
  have hc1 : Tryz.prog.cellsOf 36 = 1 := by kernel_rfl
  have hc2 : Tryz.prog.cellsOf 34 = 1 := by kernel_rfl
  rw [hc1] at hlen hsz
  match cs, hsz, xs, hxl, hx1 with
  | ⟨[a]⟩, _, [y0], _, hx1 =>
    have h0 := hf 0 _ rfl
    change DataW.trod enc Tryz.prog w base spare held n 34 (([a].drop 0).take (Tryz.prog.cellsOf 34)) = _ at h0
    rw [hc2] at h0
    obtain ⟨A, c, L, hcs, hs, hq, hbk⟩ := open_list (sz := 5) (by decide) Tryz.underlying34 cellsField fldC (fun _ => rfl) (fun f => (Lit.int .i64 f.kd).wf = true ∧ f.nm.size ≤ maxLen) (fun _ => 1)
      (fun _ _ x h => by obtain ⟨y, e, hw⟩ := open_fld h; exact ⟨y, e, hw, one_le _⟩) (h0.trans rfl)
    simp at hcs
    subst hcs
    rw [fld_flat] at hs
    rw [ones_sum] at hbk
    refine ⟨A, c, L, rfl, ⟨hs, hq⟩, ?_⟩
    have hd' : d = .agg [y0.1] := by simpa using congrArg Prod.fst hx1
    subst hd'
    simp only [Rows.uptoBulk, Rows.uptoBulkAll]
    omega
theorem str_bulk {y : DataW H × List MemPlace} {s : ByteArray} (h : y = (.lit (.string s.data.toList), [])) : s.size + 1 = Rows.uptoBulk y.1 := by
  rw [h]
  simp only [Rows.uptoBulk]
  rw [Array.length_toList]
  rfl
theorem open_fldB {fuel : Nat} {cs : List Value} {x : DataW H × List MemPlace} (h : DataW.trod enc Tryz.prog w base spare held fuel 67 cs = some x) :
    ∃ y : Fld, cs = fldC y ∧ (Lit.int .i64 y.kd).wf = true ∧ y.nm.size ≤ maxLen ∧ y.nm.size + 2 ≤ Rows.uptoBulk x.1 := by
  obtain ⟨xs, n, _, hx, hlen, hxl, hf⟩ := DataW.trod_struct Tryz.underlying67 h
  rw [cellsField] at hlen
  match cs, hlen, xs, hxl with
  | [a, b, c, d, e], _, [y0, y1, y2, y3, y4], _ =>
    have h0 := hf 0 _ rfl
    have h1 := hf 1 _ rfl
    have h2 := hf 2 _ rfl
    have h3 := hf 3 _ rfl
    have h4 := hf 4 _ rfl
    change DataW.trod enc Tryz.prog w base spare held n 9 (([a, b, c, d, e].drop 0).take (Tryz.prog.cellsOf 9)) = _ at h0
    change DataW.trod enc Tryz.prog w base spare held n 3 (([a, b, c, d, e].drop 1).take (Tryz.prog.cellsOf 3)) = _ at h1
    change DataW.trod enc Tryz.prog w base spare held n 4 (([a, b, c, d, e].drop 2).take (Tryz.prog.cellsOf 4)) = _ at h2
    change DataW.trod enc Tryz.prog w base spare held n 4 (([a, b, c, d, e].drop 3).take (Tryz.prog.cellsOf 4)) = _ at h3
    change DataW.trod enc Tryz.prog w base spare held n 4 (([a, b, c, d, e].drop 4).take (Tryz.prog.cellsOf 4)) = _ at h4
    rw [cellsStr] at h0
    rw [cellsInt] at h1
    rw [cellsBool] at h2 h3 h4
    obtain ⟨s0, e0, g0, z0⟩ := DataW.trod_string Tryz.underlying9 (h0.trans rfl)
    obtain ⟨n1, e1, _, w1⟩ := DataW.trod_int Tryz.underlying3 (h1.trans rfl)
    obtain ⟨b2, e2, _⟩ := DataW.trod_bool Tryz.underlying4 (h2.trans rfl)
    obtain ⟨b3, e3, _⟩ := DataW.trod_bool Tryz.underlying4 (h3.trans rfl)
    obtain ⟨b4, e4, _⟩ := DataW.trod_bool Tryz.underlying4 (h4.trans rfl)
    refine ⟨⟨s0, n1, b2, b3, b4⟩, ?_, w1, z0, ?_⟩
    rotate_left
    · have k0 := str_bulk g0
      have k1 := one_le y1.1
      rw [hx]
      simp only [List.map_cons, List.map_nil, Rows.uptoBulk, Rows.uptoBulkAll]
      omega
    simp at e0 e1 e2 e3 e4
    simp [fldC, e0, e1, e2, e3, e4]

theorem mem_sum {α : Type} (g : α → Nat) : ∀ (l : List α) {y : α}, y ∈ l → g y ≤ (l.map g).sum
  | v :: r, y, h => by
    rw [List.map_cons, List.sum_cons]
    rcases List.mem_cons.1 h with rfl | h
    · omega
    · have := mem_sum g r h; omega
theorem len_sum {α : Type} (g : α → Nat) (hg : ∀ y, 1 ≤ g y) : ∀ l : List α, l.length ≤ (l.map g).sum
  | [] => Nat.le_refl _
  | v :: r => by
    have := len_sum g hg r
    have := hg v
    rw [List.map_cons, List.sum_cons, List.length_cons]
    omega
/-- A schema by value; what its names hold is no more than the datum. -/
theorem open_schemaN {r : Reach} {b0 : Nat} {v : Value} {d : DataW H} {ps : List MemPlace} (hval : Value.okWide Tryz.prog w r b0 36 v) (hd : DataW.Trod enc Tryz.prog w base spare held 36 v d ps) :
    ∃ (A : Option Addr) (c : Nat) (fs : List Fld), v = .agg #[.slice A fs.length c] ∧ (Slc w w.heap.size A (fldCells fs) ∧ ∀ f ∈ fs, (Lit.int .i64 f.kd).wf = true ∧ f.nm.size ≤ maxLen) ∧ (fs.length ≤ Rows.uptoBulk d ∧ ∀ f ∈ fs, f.nm.size + 2 ≤ Rows.uptoBulk d) := by
  obtain ⟨cs, rfl, hsz⟩ := okWide_struct Tryz.underlying36 hval
  obtain ⟨m, hm⟩ := hd
  obtain ⟨xs, n, _, hx1, hlen, hxl, hf⟩ := DataW.trod_struct Tryz.underlying36 hm
  have hc1 : Tryz.prog.cellsOf 36 = 1 := by kernel_rfl
  have hc2 : Tryz.prog.cellsOf 34 = 1 := by kernel_rfl
  rw [hc1] at hlen hsz
  match cs, hsz, xs, hxl, hx1 with
  | ⟨[a]⟩, _, [y0], _, hx1 =>
    have h0 := hf 0 _ rfl
    change DataW.trod enc Tryz.prog w base spare held n 34 (([a].drop 0).take (Tryz.prog.cellsOf 34)) = _ at h0
    rw [hc2] at h0
    obtain ⟨A, c, L, hcs, hs, hq, hbk⟩ := open_list (sz := 5) (by decide) Tryz.underlying34 cellsField fldC (fun _ => rfl) (fun f => (Lit.int .i64 f.kd).wf = true ∧ f.nm.size ≤ maxLen) (fun f => f.nm.size + 2)
      (fun _ _ x h => by obtain ⟨y, e, hw⟩ := open_fldB h; exact ⟨y, e, ⟨hw.1, hw.2.1⟩, hw.2.2⟩) (h0.trans rfl)
    simp at hcs
    subst hcs
    rw [fld_flat] at hs
    have hl := len_sum (fun f : Fld => f.nm.size + 2) (fun f => by omega) L
    refine ⟨A, c, L, rfl, ⟨hs, hq⟩, ?_⟩
    have hd' : d = .agg [y0.1] := by simpa using congrArg Prod.fst hx1
    subst hd'
    simp only [Rows.uptoBulk, Rows.uptoBulkAll]
    exact ⟨by omega, fun f hf => by have h2 : f.nm.size + 2 ≤ (L.map fun f => f.nm.size + 2).sum := mem_sum (fun f : Fld => f.nm.size + 2) L hf; omega⟩
end
end Go.Proofs.YtkcfgcdlnojaeaaGreatDoor.OpenSchema
