/-
  The walk of the laws' 'same' where the two lists are alike.
-/
import Derived.Test.YtmoahflgcojfcaaWordBytes
namespace Go.Proofs.Ytmoahflgcojfcaa.SameWalk
open Go.RowKit Go.PlainAid WordPlain Base WordBytes

set_option maxHeartbeats 2000000 in
theorem same_eq (ts : List Tok) (A1 A2 : Option Addr) (c1 c2 B : Nat) (w : World) (hB : B ≤ w.heap.size) (hl : ts.length ≤ 1099511627776) (h1 : Slc w B A1 (tokCells ts)) (h2 : Slc w B A2 (tokCells ts)) :
    Calls Try.prog 12 #[.slice A1 ts.length c1, .slice A2 ts.length c2] w fun e w' => e = .returned (.bool true) ∧ Below w.heap.size w w' := by
  go_enter Try.func12, Try.ntmps12
  go_wp2
  go_loopw [13] (fun i wr => ∃ k : Nat, k ≤ ts.length ∧ i = .int .i64 k ∧ Below w.heap.size w wr) (fun i _ => ts.length - (intOf i).toNat)
  case atStart => exact ⟨0, Nat.zero_le _, rfl, Below.refl _ _⟩
  case round =>
    obtain ⟨k, hk, rfl, hbel⟩ := hrel
    by_cases hlt : k < ts.length
    · have hne : tokCells ts ≠ [] := by
        intro h
        have := tokCells_len ts
        rw [h] at this
        simp at this
        omega
      obtain ⟨g1, o1, rfl, hg1, hc1⟩ := (h1.below hbel hB) hne
      obtain ⟨g2, o2, rfl, hg2, hc2⟩ := (h2.below hbel hB) hne
      obtain ⟨t, ht⟩ : ∃ t, ts[k]? = some t := ⟨_, List.getElem?_eq_getElem hlt⟩
      have e := fun j (hj : j < 5) => tokCells_at ts k t j ht hj
      have x0 : wr.cell? ⟨g1, o1 + k * 5, none⟩ = some (.string t.text) := hc1 (k * 5 + 0) _ (e 0 (by omega))
      have x1 : wr.cell? ⟨g1, o1 + k * 5 + 1, none⟩ = some (.int .i64 t.value) := by have := hc1 (k * 5 + 1) _ (e 1 (by omega)); rwa [← Nat.add_assoc] at this
      have x2 : wr.cell? ⟨g1, o1 + k * 5 + 2, none⟩ = some (.int .i64 t.pos) := by have := hc1 (k * 5 + 2) _ (e 2 (by omega)); rwa [← Nat.add_assoc] at this
      have x3 : wr.cell? ⟨g1, o1 + k * 5 + 3, none⟩ = some (.int .i64 t.start) := by have := hc1 (k * 5 + 3) _ (e 3 (by omega)); rwa [← Nat.add_assoc] at this
      have x4 : wr.cell? ⟨g1, o1 + k * 5 + 4, none⟩ = some (.int .i64 t.stop) := by have := hc1 (k * 5 + 4) _ (e 4 (by omega)); rwa [← Nat.add_assoc] at this
      have y0 : wr.cell? ⟨g2, o2 + k * 5, none⟩ = some (.string t.text) := hc2 (k * 5 + 0) _ (e 0 (by omega))
      have y1 : wr.cell? ⟨g2, o2 + k * 5 + 1, none⟩ = some (.int .i64 t.value) := by have := hc2 (k * 5 + 1) _ (e 1 (by omega)); rwa [← Nat.add_assoc] at this
      have y2 : wr.cell? ⟨g2, o2 + k * 5 + 2, none⟩ = some (.int .i64 t.pos) := by have := hc2 (k * 5 + 2) _ (e 2 (by omega)); rwa [← Nat.add_assoc] at this
      have y3 : wr.cell? ⟨g2, o2 + k * 5 + 3, none⟩ = some (.int .i64 t.start) := by have := hc2 (k * 5 + 3) _ (e 3 (by omega)); rwa [← Nat.add_assoc] at this
      have y4 : wr.cell? ⟨g2, o2 + k * 5 + 4, none⟩ = some (.int .i64 t.stop) := by have := hc2 (k * 5 + 4) _ (e 4 (by omega)); rwa [← Nat.add_assoc] at this
      clear e hc1 hc2
      go_wp2_with fail
      go_quiet (fail)
      go_wp2
      go_roundw
      case rel => exact ⟨k + 1, by omega, by go_num, hbel.trans ⟨rfl, rfl, rfl, Nat.le_refl _, fun _ _ => rfl⟩⟩
      case measure => simp [intOf]; omega
    · obtain rfl : k = ts.length := by omega
      go_wp2
      go_ret
      exact ⟨rfl, hbel⟩
end Go.Proofs.Ytmoahflgcojfcaa.SameWalk
