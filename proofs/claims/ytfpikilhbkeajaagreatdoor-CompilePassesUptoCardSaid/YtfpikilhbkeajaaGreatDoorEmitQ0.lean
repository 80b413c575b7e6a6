/-
  What the emitter's query is asked.
-/
import Derived.Test.YtfpikilhbkeajaaGreatDoorEmitList
set_option linter.unusedVariables false
set_option linter.unusedSimpArgs false
namespace Go.Proofs.YtfpikilhbkeajaaGreatDoor.EmitQ0
set_option maxRecDepth 100000
open Go.RowKit Go.PlainAid Base Query QrySize EmitPlain EmitBase EmitPut LeafMap EmitNear EmitRaw EmitMost EmitSplit EmitMiss EmitExt EmitList

structure QLoc (hd : Head) (nk : Nat) : Prop where
  kind : hd.kind = 1 ∨ hd.kind = 2 ∨ hd.kind = 3 ∨ hd.kind = 4 ∨ hd.kind = 5 ∨ hd.kind = 10 ∨ hd.kind = 11 ∨ hd.kind = 12 ∨ hd.kind = 13 ∨ hd.kind = 14
  has : hd.kind = 3 → 0 ≤ hd.field
  phr : hd.kind = 5 → hd.terms.length = hd.offs.length ∧ 0 < hd.offs.length ∧ hd.offs.length ≤ 1099511627776
  lst : hd.kind = 10 → hd.occur.length = nk ∧ 0 ≤ hd.n ∧ hd.n ≤ 1099511627776
  one : (hd.kind = 12 ∨ hd.kind = 13 ∨ hd.kind = 14) → 0 < nk
  few : nk ≤ 1048576
inductive GoodQ : Qry → Prop
  | mk (hd : Head) (ks : List Qry) (h : QLoc hd ks.length) (hk : ∀ k ∈ ks, GoodQ k) : GoodQ (.mk hd ks)

theorem fit_lt {x : Int} (h : (Lit.int .i64 x).wf = true) : -9223372036854775808 ≤ x ∧ x < 9223372036854775808 := by
  have h' : (decide ((-9223372036854775808 : Int) ≤ x) && decide (x ≤ (9223372036854775807 : Int))) = true := h
  simp at h'
  omega
theorem kl_of {w : World} {E : Nat} {A4 : Option Addr} {ks : List Qry} {kc : Nat → List Value} (hE : E < w.heap.size) (h4 : ks ≠ [] → ∃ g o, A4 = some ⟨g, o, none⟩ ∧ g < E ∧ ∀ i, i < ks.length → ∀ j u, (kc i)[j]? = some u → w.cell? ⟨g, o + i * 15 + j, none⟩ = some u) (h5 : ∀ i k, ks[i]? = some k → QVal w E (kc i) k) : KL w E A4 ks := fun hne => by
  obtain ⟨g, o, e, hg, hc⟩ := h4 hne
  exact ⟨g, o, kc, e, ⟨by omega, .inl hg⟩, hc, h5⟩
theorem emit1 (x : Lf → Int) (hd : Head) (ks : List Qry) (full : Bool) (n : Nat) (hk : hd.kind = 1) : emit x (.mk hd ks) full n = ([⟨1, 0, 0⟩], []) := by
  rw [emit, emits_map]; unfold emitBy; rw [hk]; simp
theorem emit2 (x : Lf → Int) (hd : Head) (ks : List Qry) (full : Bool) (n : Nat) (hk : hd.kind = 2) : emit x (.mk hd ks) full n = ([⟨2, 0, 0⟩], []) := by
  rw [emit, emits_map]; unfold emitBy; rw [hk]; simp
theorem emit3 (x : Lf → Int) (hd : Head) (ks : List Qry) (full : Bool) (n : Nat) (hk : hd.kind = 3) : emit x (.mk hd ks) full n = ([⟨3, hd.field, 0⟩], []) := by
  rw [emit, emits_map]; unfold emitBy; rw [hk]; simp
theorem emit4 (x : Lf → Int) (hd : Head) (ks : List Qry) (full : Bool) (n : Nat) (hk : hd.kind = 4) : emit x (.mk hd ks) full n = ([⟨4, x ⟨hd.field, hd.text⟩, wt hd full⟩], []) := by
  rw [emit, emits_map]; unfold emitBy; rw [hk]; simp
theorem emit5 (x : Lf → Int) (hd : Head) (ks : List Qry) (full : Bool) (n : Nat) (hk : hd.kind = 5) : emit x (.mk hd ks) full n = ([⟨5, (n : Int), wt hd full⟩], [⟨hd.terms.map fun t => x ⟨hd.field, t⟩, hd.offs, hd.n⟩]) := by
  rw [emit, emits_map]; unfold emitBy; rw [hk]; simp
theorem emit10 (x : Lf → Int) (hd : Head) (ks : List Qry) (full : Bool) (n : Nat) (hk : hd.kind = 10) : emit x (.mk hd ks) full n = listF hd full (ks.map (emit x)) n := by
  rw [emit, emits_map]; unfold emitBy; rw [hk]; simp
theorem emit11 (x : Lf → Int) (hd : Head) (ks : List Qry) (full : Bool) (n : Nat) (hk : hd.kind = 11) : emit x (.mk hd ks) full n = shut (chn (if full then none else some 16) (some 8) (ks.map fun k => emit x k full)) n := by
  rw [emit, emits_map]; unfold emitBy; rw [hk]; simp [Function.comp_def]
theorem emit12 (x : Lf → Int) (hd : Head) (ks : List Qry) (full : Bool) (n : Nat) (hk : hd.kind = 12) : emit x (.mk hd ks) full n = (((kid0 (ks.map (emit x)) false) n).1 ++ [⟨11, 0, 0⟩], ((kid0 (ks.map (emit x)) false) n).2) := by
  rw [emit, emits_map]; unfold emitBy; rw [hk]; simp
theorem emit13 (x : Lf → Int) (hd : Head) (ks : List Qry) (full : Bool) (n : Nat) (hk : hd.kind = 13) : emit x (.mk hd ks) full n = (((kid0 (ks.map (emit x)) full) n).1 ++ (if full then [⟨12, wt hd full, 0⟩] else []), ((kid0 (ks.map (emit x)) full) n).2) := by
  rw [emit, emits_map]; unfold emitBy; rw [hk]; simp
theorem emit14 (x : Lf → Int) (hd : Head) (ks : List Qry) (full : Bool) (n : Nat) (hk : hd.kind = 14) : emit x (.mk hd ks) full n = (((kid0 (ks.map (emit x)) false) n).1 ++ (if full then [⟨13, wt hd full, 0⟩] else []), ((kid0 (ks.map (emit x)) false) n).2) := by
  rw [emit, emits_map]; unfold emitBy; rw [hk]; simp
end Go.Proofs.YtfpikilhbkeajaaGreatDoor.EmitQ0
