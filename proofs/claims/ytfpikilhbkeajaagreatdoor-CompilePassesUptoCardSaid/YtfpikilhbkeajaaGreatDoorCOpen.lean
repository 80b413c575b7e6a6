/-
  Arguments that are a plan and statistics, read as data, in cells; what they hold is no more than the datum.
  Arguments that are a plan and statistics, by value.
-/
import Derived.Test.YtfpikilhbkeajaaGreatDoorCQry
import Derived.Test.YtfpikilhbkeajaaGreatDoorCEmitA
import Derived.Test.YtfpikilhbkeajaaGreatDoorCLeaves
import Derived.Test.YtfpikilhbkeajaaGreatDoorGoodLoc
import Derived.Test.YtfpikilhbkeajaaGreatDoorCLaw
import Derived.Test.YtfpikilhbkeajaaGreatDoorRows
import Derived.Deep.Slices
import Derived.Deep.Fields
import Derived.ChangeSame
import Derived.SizedLaws
set_option linter.unusedVariables false
set_option linter.unusedSimpArgs false
namespace Go.Proofs.YtfpikilhbkeajaaGreatDoor.OpenPlan
set_option maxRecDepth 100000
open Go.ChangeShapes Go.WideShapes Go.Deep Base Query EmitPlain LeafMap

def hbulk (h : Head) : Nat := 1 + h.text.size + (h.terms.map fun t => t.size + 1).sum + h.offs.length + h.occur.length + h.lo.text.size + h.hi.text.size
mutual
def bulk : Qry → Nat
  | .mk h ks => hbulk h + bulks ks
def bulks : List Qry → Nat
  | [] => 0
  | q :: r => bulk q + bulks r
end
theorem one_le {H : Type} (d : DataW H) : 1 ≤ Rows.uptoBulk d := by
  cases d with
  | lit l => cases l <;> simp [Rows.uptoBulk]
  | nil => simp [Rows.uptoBulk]
  | ptr d => simp [Rows.uptoBulk]
  | slice elems spare => simp [Rows.uptoBulk]
  | agg parts => simp [Rows.uptoBulk]
  | iface t d => simp [Rows.uptoBulk]
  | map entries => simp [Rows.uptoBulk]
  | held h => simp [Rows.uptoBulk]
theorem part_le {H : Type} {d : DataW H} {l : List (DataW H)} (h : d ∈ l) : Rows.uptoBulk d ≤ Rows.uptoBulkAll l := by
  induction l with
  | nil => cases h
  | cons x r ih =>
    simp only [Rows.uptoBulkAll]
    cases List.mem_cons.1 h with
    | inl e => subst e; omega
    | inr e => have := ih e; omega
theorem bulk_append {H : Type} (l r : List (DataW H)) : Rows.uptoBulkAll (l ++ r) = Rows.uptoBulkAll l + Rows.uptoBulkAll r := by
  induction l with
  | nil => simp [Rows.uptoBulkAll]
  | cons x l ih => simp only [List.cons_append, Rows.uptoBulkAll, ih]; omega

instance : Inhabited Qry := ⟨.mk ⟨0, 0, ByteArray.empty, [], [], 0, 0, default, default, []⟩ []⟩
theorem cellsQ : Tryz.prog.cellsOf 29 = 15 := by kernel_rfl
theorem cellsB : Tryz.prog.cellsOf 26 = 3 := by kernel_rfl
theorem cellsStr : Tryz.prog.cellsOf 9 = 1 := by kernel_rfl
theorem cellsInt : Tryz.prog.cellsOf 3 = 1 := by kernel_rfl
theorem cellsU : Tryz.prog.cellsOf 24 = 1 := by kernel_rfl
theorem cellsBool : Tryz.prog.cellsOf 4 = 1 := by kernel_rfl
theorem cellsSS : Tryz.prog.cellsOf 22 = 1 := by kernel_rfl
theorem cellsSI : Tryz.prog.cellsOf 23 = 1 := by kernel_rfl
theorem cellsSQ : Tryz.prog.cellsOf 27 = 1 := by kernel_rfl

theorem add_of {g o i : Nat} : (⟨g, o, none⟩ : Addr).add i = ⟨g, o + i, none⟩ := by
  unfold Addr.add
  by_cases h : i = 0
  · subst h; simp
  · simp [h]

section
variable {H : Type} {enc : TypeId × Value → H} {w : World} {base : Nat} {spare : Nat → Bool} {held : Bool}

theorem open_rel {α : Type} [Inhabited α] {t e : TypeId} {sz : Nat} (hsz : 0 < sz) (ht : Tryz.prog.underlying t = some (.slice e)) (hce : Tryz.prog.cellsOf e = sz) (R : List Value → α → Prop) (M : α → Nat) (hR : ∀ cs y, R cs y → cs.length = sz)
    {fuel : Nat} {cs : List Value} {x : DataW H × List MemPlace}
    (one : ∀ (fuel : Nat) (cs : List Value) (y : DataW H × List MemPlace), SizeOf.sizeOf y.1 < SizeOf.sizeOf x.1 → DataW.trod enc Tryz.prog w base spare held fuel e cs = some y → ∃ z : α, R cs z ∧ M z ≤ Rows.uptoBulk y.1)
    (h : DataW.trod enc Tryz.prog w base spare held fuel t cs = some x) :
    ∃ (A : Option Addr) (c : Nat) (L : List α) (f : Nat → List Value), cs = [.slice A L.length c] ∧ L.length ≤ maxLen ∧ (A = none → L.length = 0 ∧ c = 0) ∧
      (L ≠ [] → ∃ g o, A = some ⟨g, o, none⟩ ∧ g < w.heap.size ∧ ∀ i, i < L.length → ∀ j u, (f i)[j]? = some u → w.cell? ⟨g, o + i * sz + j, none⟩ = some u) ∧ (∀ i k, L[i]? = some k → R (f i) k) ∧ (L.map M).sum + 1 ≤ Rows.uptoBulk x.1 := by
  rcases open_slice ht h with ⟨rfl, rfl⟩ | ⟨a, len, cap, m, n, D, Pl, rfl, hb, hl, hm, hmm, rfl, hi⟩
  · exact ⟨none, 0, [], fun _ => [], rfl, by simp, fun _ => ⟨rfl, rfl⟩, fun h => absurd rfl h, fun i k h => by simp at h, by simp [Rows.uptoBulk]⟩
  · have each : ∀ i, i < len → ∃ (z : α) (l : List Value), (R l z ∧ M z ≤ Rows.uptoBulk (D i)) ∧ ∀ j u, l[j]? = some u → w.cell? (a.add (i * sz + j)) = some u := by
      intro i hil
      have him : i < m := by rw [hmm]; split <;> omega
      obtain ⟨cs', hc', ht'⟩ := hi i him
      rw [hce] at hc'
      have hsz' : SizeOf.sizeOf (D i) < SizeOf.sizeOf (DataW.slice ((List.range len).map D) ((List.range (m - len)).map fun j => D (len + j))) := by
        have h1 := List.sizeOf_lt_of_mem (List.mem_map.2 ⟨i, List.mem_range.2 hil, rfl⟩ : D i ∈ (List.range len).map D)
        simp only [DataW.slice.sizeOf_spec]
        omega
      obtain ⟨z, hz⟩ := one _ _ _ hsz' ht'
      refine ⟨z, cs', hz, fun j u hu => ?_⟩
      rw [← add_add]
      obtain ⟨_, hl', hat⟩ := World.cells?_some hc'
      have hj : j < sz := by have := (List.getElem?_eq_some_iff.1 hu).1; omega
      rw [hat j hj, hu]
    obtain ⟨z, l, hzl⟩ : ∃ (z : Nat → α) (l : Nat → List Value), ∀ i, i < len → (R (l i) (z i) ∧ M (z i) ≤ Rows.uptoBulk (D i)) ∧ ∀ j u, (l i)[j]? = some u → w.cell? (a.add (i * sz + j)) = some u :=
      ⟨fun i => if hx : i < len then (each i hx).choose else default, fun i => if hx : i < len then (each i hx).choose_spec.choose else [], fun i hil => by simp only [dif_pos hil]; exact (each i hil).choose_spec.choose_spec⟩
    refine ⟨some a, cap, (List.range len).map z, l, by simp, by simp; omega, fun h => (by cases h), fun hne => ?_, fun i k hk => ?_, ?_⟩
    · have hlen : 0 < len := by
        rcases Nat.eq_zero_or_pos len with h0 | h0
        · subst h0; exact absurd rfl hne
        · exact h0
      obtain ⟨g, o, spot⟩ := a
      have hl0 := hR _ _ (hzl 0 hlen).1.1
      obtain ⟨u0, hu0⟩ : ∃ u, (l 0)[0]? = some u := ⟨_, List.getElem?_eq_getElem (by omega)⟩
      have hc0 := (hzl 0 hlen).2 0 u0 hu0
      have hspot : spot = none := by simpa [Addr.add] using World.cell?_spot hc0
      subst hspot
      rw [add_of] at hc0
      refine ⟨g, o, rfl, World.block_lt_of_cell? w _ hc0, fun i hi' j u hu => ?_⟩
      have h3 := (hzl i (by simpa using hi')).2 j u hu
      rw [add_of, ← Nat.add_assoc] at h3
      exact h3
    · rw [List.getElem?_map] at hk
      obtain ⟨i', hi', rfl⟩ := Option.map_eq_some_iff.1 hk
      have hil := (List.getElem?_eq_some_iff.1 hi').1
      rw [List.length_range] at hil
      rw [List.getElem?_range hil] at hi'
      cases hi'
      exact (hzl i hil).1.1
    · have key : ∀ n, n ≤ len → (((List.range n).map z).map M).sum ≤ Rows.uptoBulkAll ((List.range n).map D) := by
        intro n
        induction n with
        | zero => intro _; simp [Rows.uptoBulkAll]
        | succ n ih =>
          intro hn
          have h1 := ih (by omega)
          have h2 := (hzl n (by omega)).1.2
          rw [List.range_succ, List.map_append, List.map_append, List.sum_append, List.map_append, bulk_append]
          simp only [List.map_cons, List.map_nil, List.sum_cons, List.sum_nil, Rows.uptoBulkAll]
          omega
      have := key len (Nat.le_refl _)
      simp only [Rows.uptoBulk]
      omega

theorem open_one {α : Type} [Inhabited α] {t e : TypeId} (ht : Tryz.prog.underlying t = some (.slice e)) (hce : Tryz.prog.cellsOf e = 1) (V : α → Value) (Q : α → Prop) (M : α → Nat) {fuel : Nat} {cs : List Value} {x : DataW H × List MemPlace}
    (one : ∀ (fuel : Nat) (cs : List Value) (y : DataW H × List MemPlace), DataW.trod enc Tryz.prog w base spare held fuel e cs = some y → ∃ z : α, cs = [V z] ∧ Q z ∧ M z ≤ Rows.uptoBulk y.1)
    (h : DataW.trod enc Tryz.prog w base spare held fuel t cs = some x) :
    ∃ (A : Option Addr) (c : Nat) (L : List α), cs = [.slice A L.length c] ∧ L.length ≤ maxLen ∧ (A = none → L.length = 0 ∧ c = 0) ∧ Slc w w.heap.size A (L.map V) ∧ (∀ z ∈ L, Q z) ∧ (L.map M).sum + 1 ≤ Rows.uptoBulk x.1 := by
  obtain ⟨A, c, L, f, h1, h2, h3, h4, h5, h6⟩ := open_rel (R := fun cs z => cs = [V z] ∧ Q z) (M := M) (by decide) ht hce (fun cs z hz => by rw [hz.1]; rfl) (fun fuel cs y _ hy => by obtain ⟨z, q1, q2, q3⟩ := one fuel cs y hy; exact ⟨z, ⟨q1, q2⟩, q3⟩) h
  refine ⟨A, c, L, h1, h2, h3, fun hne => ?_, fun z hz => ?_, h6⟩
  · obtain ⟨g, o, e1, hg, hc⟩ := h4 (by intro h; subst h; exact hne rfl)
    refine ⟨g, o, e1, hg, fun j u hu => ?_⟩
    rw [List.getElem?_map] at hu
    obtain ⟨z, hz, rfl⟩ := Option.map_eq_some_iff.1 hu
    have := hc j (List.getElem?_eq_some_iff.1 hz).1 0 (V z) (by rw [(h5 j z hz).1]; rfl)
    simpa using this
  · obtain ⟨i, hi⟩ := List.getElem?_of_mem hz
    exact (h5 i z hi).2

theorem str_bulk {y : DataW H × List MemPlace} {s : ByteArray} (h : y = (.lit (.string s.data.toList), [])) : s.size + 1 = Rows.uptoBulk y.1 := by
  rw [h]
  simp only [Rows.uptoBulk]
  rw [Array.length_toList]
  rfl
theorem bulks_sum : ∀ l : List Qry, (l.map bulk).sum = bulks l
  | [] => rfl
  | q :: r => by simp only [List.map_cons, List.sum_cons, bulks, bulks_sum r]
theorem ones_sum : ∀ l : List Int, (l.map fun _ => (1 : Nat)).sum = l.length
  | [] => rfl
  | q :: r => by simp only [List.map_cons, List.sum_cons, ones_sum r, List.length_cons]; omega
theorem open_bnd {fuel : Nat} {cs : List Value} {x : DataW H × List MemPlace} (h : DataW.trod enc Tryz.prog w base spare held fuel 26 cs = some x) : ∃ b : Bnd, cs = bndC b ∧ b.text.size ≤ Rows.uptoBulk x.1 := by
  obtain ⟨xs, n, _, hx, hlen, hxl, hf⟩ := DataW.trod_struct Tryz.underlying26 h
  rw [cellsB] at hlen
  match cs, hlen, xs, hxl with
  | [a, b, c], _, [y0, y1, y2], _ =>
    have h0 := hf 0 _ rfl
    have h1 := hf 1 _ rfl
    have h2 := hf 2 _ rfl
    change DataW.trod enc Tryz.prog w base spare held n 4 (([a, b, c].drop 0).take (Tryz.prog.cellsOf 4)) = _ at h0
    change DataW.trod enc Tryz.prog w base spare held n 4 (([a, b, c].drop 1).take (Tryz.prog.cellsOf 4)) = _ at h1
    change DataW.trod enc Tryz.prog w base spare held n 9 (([a, b, c].drop 2).take (Tryz.prog.cellsOf 9)) = _ at h2
    rw [cellsBool] at h0 h1
    rw [cellsStr] at h2
    obtain ⟨b0, e0, _⟩ := DataW.trod_bool Tryz.underlying4 (h0.trans rfl)
    obtain ⟨b1, e1, _⟩ := DataW.trod_bool Tryz.underlying4 (h1.trans rfl)
    obtain ⟨s2, e2, q2, _⟩ := DataW.trod_string Tryz.underlying9 (h2.trans rfl)
    refine ⟨⟨b0, b1, s2⟩, ?_, ?_⟩
    · simp at e0 e1 e2
      simp [bndC, e0, e1, e2]
    · have h1 := part_le (l := [y0, y1, y2].map (·.1)) (d := y2.1) (by simp)
      have h2 := str_bulk q2
      rw [hx]
      simp only [Rows.uptoBulk]
      omega
set_option maxHeartbeats 1000000 in
theorem open_query : ∀ (N : Nat) (fuel : Nat) (cs : List Value) (x : DataW H × List MemPlace), SizeOf.sizeOf x.1 ≤ N → DataW.trod enc Tryz.prog w base spare held fuel 29 cs = some x → ∃ q : Qry, QVal w w.heap.size cs q ∧ bulk q ≤ Rows.uptoBulk x.1
  | 0, fuel, cs, x, hN, h => by
    obtain ⟨xs, n, _, hx, _⟩ := DataW.trod_struct Tryz.underlying29 h
    subst hx
    simp only [DataW.agg.sizeOf_spec] at hN
    omega
  | N + 1, fuel, cs, x, hN, h => by
    obtain ⟨xs, n, _, hx, hlen, hxl, hf⟩ := DataW.trod_struct Tryz.underlying29 h
    rw [cellsQ] at hlen
    match cs, hlen, xs, hxl with
    | [a0, a1, a2, a3, a4, a5, a6, a7, a8, a9, a10, a11, a12, a13, a14], _, [y0, y1, y2, y3, y4, y5, y6, y7, y8, y9, y10], _ =>
      have h0 := hf 0 _ rfl
      have h1 := hf 1 _ rfl
      have h2 := hf 2 _ rfl
      have h3 := hf 3 _ rfl
      have h4 := hf 4 _ rfl
      have h5 := hf 5 _ rfl
      have h6 := hf 6 _ rfl
      have h7 := hf 7 _ rfl
      have h8 := hf 8 _ rfl
      have h9 := hf 9 _ rfl
      have h10 := hf 10 _ rfl
      change DataW.trod enc Tryz.prog w base spare held n 3 ([a0, a1, a2, a3, a4, a5, a6, a7, a8, a9, a10, a11, a12, a13, a14].drop 0 |>.take (Tryz.prog.cellsOf 3)) = _ at h0
      change DataW.trod enc Tryz.prog w base spare held n 3 ([a0, a1, a2, a3, a4, a5, a6, a7, a8, a9, a10, a11, a12, a13, a14].drop 1 |>.take (Tryz.prog.cellsOf 3)) = _ at h1
      change DataW.trod enc Tryz.prog w base spare held n 9 ([a0, a1, a2, a3, a4, a5, a6, a7, a8, a9, a10, a11, a12, a13, a14].drop 2 |>.take (Tryz.prog.cellsOf 9)) = _ at h2
      change DataW.trod enc Tryz.prog w base spare held n 22 ([a0, a1, a2, a3, a4, a5, a6, a7, a8, a9, a10, a11, a12, a13, a14].drop 3 |>.take (Tryz.prog.cellsOf 22)) = _ at h3
      change DataW.trod enc Tryz.prog w base spare held n 23 ([a0, a1, a2, a3, a4, a5, a6, a7, a8, a9, a10, a11, a12, a13, a14].drop 4 |>.take (Tryz.prog.cellsOf 23)) = _ at h4
      change DataW.trod enc Tryz.prog w base spare held n 3 ([a0, a1, a2, a3, a4, a5, a6, a7, a8, a9, a10, a11, a12, a13, a14].drop 5 |>.take (Tryz.prog.cellsOf 3)) = _ at h5
      change DataW.trod enc Tryz.prog w base spare held n 24 ([a0, a1, a2, a3, a4, a5, a6, a7, a8, a9, a10, a11, a12, a13, a14].drop 6 |>.take (Tryz.prog.cellsOf 24)) = _ at h6
      change DataW.trod enc Tryz.prog w base spare held n 26 ([a0, a1, a2, a3, a4, a5, a6, a7, a8, a9, a10, a11, a12, a13, a14].drop 7 |>.take (Tryz.prog.cellsOf 26)) = _ at h7
      change DataW.trod enc Tryz.prog w base spare held n 26 ([a0, a1, a2, a3, a4, a5, a6, a7, a8, a9, a10, a11, a12, a13, a14].drop 10 |>.take (Tryz.prog.cellsOf 26)) = _ at h8
      change DataW.trod enc Tryz.prog w base spare held n 23 ([a0, a1, a2, a3, a4, a5, a6, a7, a8, a9, a10, a11, a12, a13, a14].drop 13 |>.take (Tryz.prog.cellsOf 23)) = _ at h9
      change DataW.trod enc Tryz.prog w base spare held n 27 ([a0, a1, a2, a3, a4, a5, a6, a7, a8, a9, a10, a11, a12, a13, a14].drop 14 |>.take (Tryz.prog.cellsOf 27)) = _ at h10
      rw [cellsInt] at h0 h1 h5
      rw [cellsStr] at h2
      rw [cellsSS] at h3
      rw [cellsSI] at h4 h9
      rw [cellsU] at h6
      rw [cellsB] at h7 h8
      rw [cellsSQ] at h10
      obtain ⟨n0, e0, _, w0⟩ := DataW.trod_int Tryz.underlying3 (h0.trans rfl)
      obtain ⟨n1, e1, _, w1⟩ := DataW.trod_int Tryz.underlying3 (h1.trans rfl)
      obtain ⟨s2, e2, b2, z2⟩ := DataW.trod_string Tryz.underlying9 (h2.trans rfl)
      obtain ⟨A3, c3, L3, e3, l3, _, sl3, q3, b3⟩ := open_one (V := Value.string) (Q := fun s => s.size ≤ maxLen) (M := fun t => t.size + 1) Tryz.underlying22 cellsStr (fun fuel cs y hy => by obtain ⟨s, e, b, z⟩ := DataW.trod_string Tryz.underlying9 hy; exact ⟨s, e, z, Nat.le_of_eq (str_bulk b)⟩) (h3.trans rfl)
      obtain ⟨A4, c4, L4, e4, l4, _, sl4, q4, b4⟩ := open_one (V := Value.int .i64) (Q := fun o => (Lit.int .i64 o).wf = true) (M := fun _ => 1) Tryz.underlying23 cellsInt (fun fuel cs y hy => by obtain ⟨s, e, _, z⟩ := DataW.trod_int Tryz.underlying3 hy; exact ⟨s, e, z, one_le _⟩) (h4.trans rfl)
      obtain ⟨n5, e5, _, w5⟩ := DataW.trod_int Tryz.underlying3 (h5.trans rfl)
      obtain ⟨n6, e6, _, w6⟩ := DataW.trod_int Tryz.underlying24 (h6.trans rfl)
      obtain ⟨b7, e7, k7⟩ := open_bnd (h7.trans rfl)
      obtain ⟨b8, e8, k8⟩ := open_bnd (h8.trans rfl)
      obtain ⟨A9, c9, L9, e9, l9, _, sl9, q9, b9⟩ := open_one (V := Value.int .i64) (Q := fun o => (Lit.int .i64 o).wf = true) (M := fun _ => 1) Tryz.underlying23 cellsInt (fun fuel cs y hy => by obtain ⟨s, e, _, z⟩ := DataW.trod_int Tryz.underlying3 hy; exact ⟨s, e, z, one_le _⟩) (h9.trans rfl)
      have hs10 : SizeOf.sizeOf y10.1 < SizeOf.sizeOf x.1 := by
        rw [hx]
        have h1 := List.sizeOf_lt_of_mem (by simp : y10.1 ∈ [y0, y1, y2, y3, y4, y5, y6, y7, y8, y9, y10].map (·.1))
        simp only [DataW.agg.sizeOf_spec]
        omega
      obtain ⟨A10, c10, L10, f10, e10, l10, _, sl10, q10, b10⟩ := open_rel (R := fun cs q => QVal w w.heap.size cs q) (M := bulk) (by decide) Tryz.underlying27 cellsQ (fun cs q hq => hq.len) (fun fuel cs y hy ht => open_query N fuel cs y (by omega) ht) (h10.trans rfl)
      refine ⟨.mk ⟨n0, n1, s2, L3, L4, n5, n6, b7, b8, L9⟩ L10, ?_, ?_⟩
      rotate_left
      · have g2 := str_bulk b2
        have g10 := bulks_sum L10
        have g4 := ones_sum L4
        have g9 := ones_sum L9
        have w5 := one_le y5.1
        rw [hx]
        simp only [List.map_cons, List.map_nil, Rows.uptoBulk, Rows.uptoBulkAll, bulk, hbulk]
        omega
      have key := QVal.mk (w := w) (B := w.heap.size) ⟨n0, n1, s2, L3, L4, n5, n6, b7, b8, L9⟩ L10 A3 A4 A9 A10 c3 c4 c9 c10 f10 ⟨w0, w1, w5, w6, q4, q9, z2, q3, l3, l4, l9⟩ l10 sl3 sl4 sl9 sl10 q10
      simp at e0 e1 e2 e3 e4 e5 e6 e7 e8 e9 e10
      simp [bndC] at e7 e8
      obtain ⟨r7, r8, r9⟩ := e7
      obtain ⟨r10, r11, r12⟩ := e8
      subst e0 e1 e2 e3 e4 e5 e6 r7 r8 r9 r10 r11 r12 e9 e10
      exact key

theorem cellsL : Tryz.prog.cellsOf 51 = 2 := by kernel_rfl
theorem cellsSL : Tryz.prog.cellsOf 30 = 1 := by kernel_rfl
theorem cellsPl : Tryz.prog.cellsOf 32 = 17 := by kernel_rfl
theorem cellsSt : Tryz.prog.cellsOf 34 = 2 := by kernel_rfl
theorem open_leaf {fuel : Nat} {cs : List Value} {x : DataW H × List MemPlace} (h : DataW.trod enc Tryz.prog w base spare held fuel 51 cs = some x) : ∃ l : Lf, (cs = AllLeaves.lfC l ∧ LfOk l) ∧ 1 ≤ Rows.uptoBulk x.1 := by
  obtain ⟨xs, n, _, hx, hlen, hxl, hf⟩ := DataW.trod_struct Tryz.underlying51 h
  rw [cellsL] at hlen
  match cs, hlen, xs, hxl with
  | [a, b], _, [y0, y1], _ =>
    have h0 := hf 0 _ rfl
    have h1 := hf 1 _ rfl
    change DataW.trod enc Tryz.prog w base spare held n 3 (([a, b].drop 0).take (Tryz.prog.cellsOf 3)) = _ at h0
    change DataW.trod enc Tryz.prog w base spare held n 9 (([a, b].drop 1).take (Tryz.prog.cellsOf 9)) = _ at h1
    rw [cellsInt] at h0
    rw [cellsStr] at h1
    obtain ⟨n0, e0, _, w0⟩ := DataW.trod_int Tryz.underlying3 (h0.trans rfl)
    obtain ⟨s1, e1, _, z1⟩ := DataW.trod_string Tryz.underlying9 (h1.trans rfl)
    refine ⟨⟨n0, s1⟩, ⟨?_, w0, z1⟩, one_le _⟩
    simp at e0 e1
    simp [AllLeaves.lfC, e0, e1]
end
end Go.Proofs.YtfpikilhbkeajaaGreatDoor.OpenPlan

namespace Go.Proofs.YtfpikilhbkeajaaGreatDoor.PlanArgs
set_option maxRecDepth 100000
open Go.ChangeShapes Go.WideShapes Go.Deep Base Query QrySize EmitPlain EmitBase LeafMap AllLeaves GoodLoc OpenPlan

theorem sum_mem {l : List Nat} {x : Nat} (h : x ∈ l) : x ≤ l.sum := by
  induction l with
  | nil => cases h
  | cons y r ih =>
    simp only [List.sum_cons]
    cases List.mem_cons.1 h with
    | inl e => subst e; omega
    | inr e => have := ih e; omega
theorem terms_sum : ∀ l : List ByteArray, l.length ≤ (l.map fun t => t.size + 1).sum
  | [] => by simp
  | t :: r => by have := terms_sum r; simp only [List.map_cons, List.sum_cons, List.length_cons]; omega
theorem hleafs_bulk (h : Head) : (hleafs h).length + 1 ≤ hbulk h + 1 ∧ (hleafs h).length ≤ hbulk h := by
  have := terms_sum h.terms
  unfold hleafs hbulk
  split
  · simp only [List.length_cons, List.length_nil]; omega
  · split
    · simp only [List.length_map]; omega
    · simp only [List.length_nil]; omega
mutual
theorem size_bulk : ∀ q : Qry, q.size ≤ bulk q ∧ (leafs q).length ≤ bulk q
  | .mk h ks => by
    have h1 := sizes_bulk ks
    have h2 := (hleafs_bulk h).2
    have h3 : 1 ≤ hbulk h := by unfold hbulk; omega
    simp only [Qry.size, bulk, leafs, List.length_append]
    omega
theorem sizes_bulk : ∀ ks : List Qry, sizes ks ≤ bulks ks ∧ (leafss ks).length ≤ bulks ks ∧ ks.length ≤ bulks ks
  | [] => by simp [sizes, bulks, leafss]
  | q :: r => by
    have h1 := size_bulk q
    have h2 := sizes_bulk r
    have h3 := Qry.size_pos q
    simp only [sizes, bulks, leafss, List.length_append, List.length_cons]
    omega
end
theorem bulk_kid {ks : List Qry} {k : Qry} (h : k ∈ ks) : bulk k ≤ bulks ks := by
  induction ks with
  | nil => cases h
  | cons q r ih =>
    simp only [bulks]
    cases List.mem_cons.1 h with
    | inl e => subst e; omega
    | inr e => have := ih e; omega
theorem short_bulk : ∀ (n : Nat) (q : Qry), bulk q ≤ n → n ≤ 1048576 → Short q
  | 0, .mk h ks, hb, _ => by
    simp only [bulk] at hb
    unfold hbulk at hb
    omega
  | n + 1, .mk h ks, hb, hn => by
    simp only [bulk] at hb
    have h1 := (sizes_bulk ks).2.2
    have h2 : h.offs.length + 1 ≤ hbulk h := by unfold hbulk; omega
    exact .mk h ks (by omega) (by omega) fun k hk => short_bulk n k (by have := bulk_kid hk; omega) (by omega)

theorem ones_sumG {α : Type} : ∀ l : List α, (l.map fun _ => (1 : Nat)).sum = l.length
  | [] => rfl
  | q :: r => by simp only [List.map_cons, List.sum_cons, ones_sumG r, List.length_cons]; omega
section
variable {H : Type} {enc : TypeId × Value → H} {w : World} {base : Nat} {spare : Nat → Bool} {held : Bool}
theorem flatten_at {α β : Type} {sz : Nat} (f : α → List β) (hf : ∀ a, (f a).length = sz) : ∀ (L : List α) (j : Nat) (u : β), (L.map f).flatten[j]? = some u → ∃ i a k, L[i]? = some a ∧ (f a)[k]? = some u ∧ j = i * sz + k
  | [], j, u, h => by simp at h
  | a :: r, j, u, h => by
    rw [List.map_cons, List.flatten_cons] at h
    by_cases hj : j < sz
    · rw [List.getElem?_append_left (by rw [hf]; exact hj)] at h
      exact ⟨0, a, j, rfl, h, by omega⟩
    · rw [List.getElem?_append_right (by rw [hf]; omega), hf] at h
      obtain ⟨i, b, k, h1, h2, h3⟩ := flatten_at f hf r _ _ h
      exact ⟨i + 1, b, k, by simpa using h1, h2, by rw [Nat.succ_mul]; omega⟩
set_option maxHeartbeats 1000000 in
theorem open_plan {r : Reach} {b0 : Nat} {v : Value} {d : DataW H} {ps : List MemPlace} (hval : Value.okWide Tryz.prog w r b0 32 v) (hd : DataW.Trod enc Tryz.prog w base spare held 32 v d ps) :
    ∃ (hd : Head) (ks : List Qry) (A1 A2 A3 A4 : Option Addr) (c1 c2 c3 c4 : Nat) (all : Bool) (AD : Option Addr) (cD : Nat) (dr : List Lf), v = .agg (plC hd ks.length A1 A2 A3 A4 c1 c2 c3 c4 all AD dr.length cD) ∧ QVal w w.heap.size (qcells hd ks.length A1 A2 A3 A4 c1 c2 c3 c4).toList (.mk hd ks) ∧ Slc w w.heap.size AD (lfCs dr) ∧ (∀ l ∈ dr, LfOk l) ∧ bulk (.mk hd ks) + dr.length ≤ Rows.uptoBulk d := by
  obtain ⟨cs, rfl, hsz⟩ := okWide_struct Tryz.underlying32 hval
  obtain ⟨m, hm⟩ := hd
  obtain ⟨xs, n, _, hx, hlen, hxl, hf⟩ := DataW.trod_struct Tryz.underlying32 hm
  rw [cellsPl] at hlen hsz
  match cs, hsz, xs, hxl with
  | ⟨[a0, a1, a2, a3, a4, a5, a6, a7, a8, a9, a10, a11, a12, a13, a14, a15, a16]⟩, _, [y0, y1, y2], _ =>
    have h0 := hf 0 _ rfl
    have h1 := hf 1 _ rfl
    have h2 := hf 2 _ rfl
    change DataW.trod enc Tryz.prog w base spare held n 29 (([a0, a1, a2, a3, a4, a5, a6, a7, a8, a9, a10, a11, a12, a13, a14, a15, a16].drop 0).take (Tryz.prog.cellsOf 29)) = _ at h0
    change DataW.trod enc Tryz.prog w base spare held n 4 (([a0, a1, a2, a3, a4, a5, a6, a7, a8, a9, a10, a11, a12, a13, a14, a15, a16].drop 15).take (Tryz.prog.cellsOf 4)) = _ at h1
    change DataW.trod enc Tryz.prog w base spare held n 30 (([a0, a1, a2, a3, a4, a5, a6, a7, a8, a9, a10, a11, a12, a13, a14, a15, a16].drop 16).take (Tryz.prog.cellsOf 30)) = _ at h2
    rw [cellsQ] at h0
    rw [cellsBool] at h1
    rw [cellsSL] at h2
    obtain ⟨q, hq, bq⟩ := open_query _ _ _ _ (Nat.le_refl _) (h0.trans rfl)
    obtain ⟨b1, e1, _⟩ := DataW.trod_bool Tryz.underlying4 (h1.trans rfl)
    obtain ⟨AD, cD, dr, f, e2, _, _, hs, hR, hb2⟩ := open_rel (sz := 2) (R := fun cs l => cs = lfC l ∧ LfOk l) (M := fun _ => 1) (by decide) Tryz.underlying30 cellsL (fun cs y hy => by rw [hy.1]; rfl) (fun fuel cs y _ hy => open_leaf hy) (h2.trans rfl)
    have hsum := ones_sumG dr
    have hq0 : QVal w w.heap.size [a0, a1, a2, a3, a4, a5, a6, a7, a8, a9, a10, a11, a12, a13, a14] q := hq
    have hsl : Slc w w.heap.size AD (lfCs dr) := fun hne => by
      obtain ⟨g, o, e, hg, hc⟩ := hs (by intro h; subst h; exact hne rfl)
      refine ⟨g, o, e, hg, fun j u hu => ?_⟩
      obtain ⟨i, l, k, hi, hk, rfl⟩ := flatten_at (sz := 2) lfC (fun _ => rfl) dr j u hu
      have := hc i (List.getElem?_eq_some_iff.1 hi).1 k u (by rw [(hR i l hi).1]; exact hk)
      rw [← Nat.add_assoc]
      exact this
    have hbk : bulk q + dr.length ≤ Rows.uptoBulk d := by
      have hd' : d = .agg [y0.1, y1.1, y2.1] := by simpa using congrArg Prod.fst hx
      subst hd'
      simp only [Rows.uptoBulk, Rows.uptoBulkAll]
      omega
    have hok : ∀ l ∈ dr, LfOk l := fun l hl => by
      obtain ⟨i, hi⟩ := List.getElem?_of_mem hl
      exact (hR i l hi).2
    simp at e1 e2
    subst e1 e2
    cases hq0 with
    | mk hd ks A1 A2 A3 A4 c1 c2 c3 c4 cs hw hk t1 t2 t3 t4 t5 =>
      exact ⟨hd, ks, A1, A2, A3, A4, c1, c2, c3, c4, b1, AD, cD, dr, rfl, QVal.mk hd ks A1 A2 A3 A4 c1 c2 c3 c4 cs hw hk t1 t2 t3 t4 t5, hsl, hok, hbk⟩
theorem open_stats {r : Reach} {b0 : Nat} {v : Value} {d : DataW H} {ps : List MemPlace} (hval : Value.okWide Tryz.prog w r b0 34 v) (hd : DataW.Trod enc Tryz.prog w base spare held 34 v d ps) :
    ∃ (docs : Int) (AS : Option Addr) (cS : Nat) (sums : List Int), v = .agg #[.int .i64 docs, .slice AS sums.length cS] ∧ (Lit.int .i64 docs).wf = true ∧ Slc w w.heap.size AS (ints sums) ∧ (∀ x ∈ sums, (Lit.int .i64 x).wf = true) ∧ sums.length ≤ Rows.uptoBulk d := by
  obtain ⟨cs, rfl, hsz⟩ := okWide_struct Tryz.underlying34 hval
  obtain ⟨m, hm⟩ := hd
  obtain ⟨xs, n, _, hx, hlen, hxl, hf⟩ := DataW.trod_struct Tryz.underlying34 hm
  rw [cellsSt] at hlen hsz
  match cs, hsz, xs, hxl with
  | ⟨[a0, a1]⟩, _, [y0, y1], _ =>
    have h0 := hf 0 _ rfl
    have h1 := hf 1 _ rfl
    change DataW.trod enc Tryz.prog w base spare held n 3 (([a0, a1].drop 0).take (Tryz.prog.cellsOf 3)) = _ at h0
    change DataW.trod enc Tryz.prog w base spare held n 23 (([a0, a1].drop 1).take (Tryz.prog.cellsOf 23)) = _ at h1
    rw [cellsInt] at h0
    rw [cellsSI] at h1
    obtain ⟨n0, e0, _, w0⟩ := DataW.trod_int Tryz.underlying3 (h0.trans rfl)
    obtain ⟨AS, cS, sums, e1, _, _, sl, qw, b1⟩ := open_one (V := Value.int .i64) (Q := fun o => (Lit.int .i64 o).wf = true) (M := fun _ => 1) Tryz.underlying23 cellsInt (fun fuel cs y hy => by obtain ⟨s, e, _, z⟩ := DataW.trod_int Tryz.underlying3 hy; exact ⟨s, e, z, one_le _⟩) (h1.trans rfl)
    have g := ones_sum sums
    have hd' : d = .agg [y0.1, y1.1] := by simpa using congrArg Prod.fst hx
    subst hd'
    simp at e0 e1
    subst e0 e1
    refine ⟨n0, AS, cS, sums, rfl, w0, sl, qw, ?_⟩
    simp only [Rows.uptoBulk, Rows.uptoBulkAll]
    omega
end
end Go.Proofs.YtfpikilhbkeajaaGreatDoor.PlanArgs
