/-
  The walk of concordlaw16's few over any query: it answers some number.
-/
import Derived.Test.YtkcfgcdlnojaeaaGreatDoorDQry
set_option linter.unusedVariables false
set_option linter.unusedSimpArgs false
namespace Go.Proofs.YtkcfgcdlnojaeaaGreatDoor.LawFew
set_option maxRecDepth 100000
open Go.RowKit Go.PlainAid Base Query QrySize QryLeft

set_option maxHeartbeats 2000000 in
theorem few_any (q : Qry) : ∀ (cs : List Value) (B : Nat) (w : World) (m : Int), QVal w B cs q → B ≤ w.heap.size →
    Calls Tryz.prog 41 #[.agg cs.toArray, .int .i64 m] w (SomeInt w) := by
  induction q using Qry.ind with
  | h q ih =>
    intro cs B w m hq hB
    obtain ⟨hd, ks, A1, A2, A3, A4, c1, c2, c3, c4, kc, hw, hk, h1, h2, h3, h4, h5⟩ := hq
    simp only [Qry.kids] at ih
    obtain ⟨W1, hW1⟩ : ∃ W, W = w.alloc (.cells (qcells hd ks.length A1 A2 A3 A4 c1 c2 c3 c4) 29) := ⟨_, rfl⟩
    have K1 : Blk W1 w.heap.size 29 (qcells hd ks.length A1 A2 A3 A4 c1 c2 c3 c4) := by rw [hW1]; exact Blk.new w _ _
    have hsz : w.heap.size + 1 = W1.heap.size := by rw [hW1]; simp
    have hbW : Below w.heap.size w W1 := by rw [hW1]; (repeat (first | exact Below.refl _ _ | assumption | refine balloc ?_ _ | refine bdrew ?_ | refine bdrewN ?_ _ | refine bchain ?_ (by assumption)))
    have HW := Lib.hid hW1
    have HZ := Lib.hid hsz
    unfold qcells at K1 HW
    clear hW1 hsz
    go_enter Tryz.func41, Tryz.ntmps41
    go_wp2_with fail
    go_loopw [5, 1] (fun i s wr => ∃ k : Nat, ∃ r : Int, k ≤ ks.length ∧ i = .int .i64 k ∧ s = .int .i64 r ∧ Below W1.heap.size W1 wr) (fun i _ _ => ks.length - (intOf i).toNat)
    case atStart => exact ⟨0, _, Nat.zero_le _, rfl, rfl, (by rw [HW.out]; exact Below.refl _ _)⟩
    case round =>
      obtain ⟨k, r, hk', rfl, rfl, hbel⟩ := hrel
      have hkl : ks.length ≤ maxLen := hk
      have hml : maxLen = 9223372036854775807 := rfl
      have c14 : wr.cell? ⟨w.heap.size, 14, none⟩ = some (.slice A4 ks.length c4) := (K1.below hbel (by have := HZ.out; omega)).cell 14
      have hbw := bchain hbW hbel
      rcases Nat.lt_or_ge k ks.length with hlt | hge
      · rcases (by omega : 0 ≤ r ∨ r < 0) with hr | hr
        · have hd1 : decide (0 ≤ r) = true := decide_eq_true hr
          obtain ⟨g, o, rfl, hg, hc⟩ := h4 (by intro h; subst h; simp at hlt)
          obtain ⟨x, hx⟩ : ∃ x, ks[k]? = some x := ⟨_, List.getElem?_eq_getElem hlt⟩
          have hq := (h5 k x hx).kept hbw hB
          obtain ⟨B1, B2, B3, B4, d1, d2, d3, d4, e, x0, x1, x2, x3, x4, x5, x6, x7, x8, x9, x10, x11, x12, x13, x14⟩ := kid_cells hq (fun j u hu => (hbw.cell (p := ⟨g, o + k * 15 + j, none⟩) (Nat.lt_of_lt_of_le hg hB)).trans (hc k hlt j u hu))
          have IH := Lib.hid (fun W m (hW : Below w.heap.size w W) => ih x (List.mem_of_getElem? hx) _ B W m ((h5 k x hx).kept hW hB) (Nat.le_trans hB hW.size))
          rw [e] at IH
          unfold qcells at IH
          have hlt2 : (k : Int) < 9223372036854775807 := by omega
          have i1 : (k : Int) < (ks.length : Int) := by omega
          have HBW := Lib.hid hbw
          clear hc h4 h5 ih hq e hx h1 h2 h3 hw hr hbw hkl hml hk
          go_wp2_with fail
          go_at_call 41
          refine (IH.out _ _ HBW.out).mono ?_
          rintro e w2 ⟨⟨r2, rfl⟩, hb2⟩
          clear IH x0 x1 x2 x3 x4 x5 x6 x7 x8 x9 x10 x11 x12 x13 x14
          go_wp2_with fail
          go_roundw
          case rel => exact ⟨k + 1, _, by omega, by go_num, rfl, bchain hbel hb2⟩
          case measure => simp [intOf]; omega
        · have hd1 : decide (0 ≤ r) = false := decide_eq_false (by omega)
          have i1 : (k : Int) < (ks.length : Int) := by omega
          clear hr ih h1 h2 h3 h4 h5 hw
          go_wp2_with fail
          go_ret
          exact ⟨⟨_, rfl⟩, hbw⟩
      · have i1 : ¬ ((k : Int) < (ks.length : Int)) := by omega
        clear ih h1 h2 h3 h4 h5 hw
        go_wp2_with fail
        go_ret
        exact ⟨⟨_, rfl⟩, hbw⟩
end Go.Proofs.YtkcfgcdlnojaeaaGreatDoor.LawFew
