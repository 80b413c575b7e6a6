/-
  The walk of concordref16's left over any query: it answers some number.
-/
import Derived.Test.YtkcfgcdlnojaeaaGreatDoorQrySize
namespace Go.Proofs.YtkcfgcdlnojaeaaGreatDoor.QryLeft
set_option maxRecDepth 100000
open Go.RowKit Go.PlainAid Base Query QrySize

/-- Some number is answered; old memory stays. -/
def SomeInt (w : World) (e : Ending) (w' : World) : Prop := (∃ r : Int, e = .returned (.int .i64 r)) ∧ Below w.heap.size w w'

set_option maxHeartbeats 2000000 in
theorem left_any (q : Qry) : ∀ (cs : List Value) (B : Nat) (w : World) (m : Int), QVal w B cs q → B ≤ w.heap.size →
    Calls Tryz.prog 45 #[.agg cs.toArray, .int .i64 m] w (SomeInt w) := by
  induction q using Qry.ind with
  | h q ih =>
    intro cs B w m hq hB
    obtain ⟨hd, ks, A1, A2, A3, A4, c1, c2, c3, c4, kc, hw, hk, h1, h2, h3, h4, h5⟩ := hq
    simp only [Qry.kids] at ih
    go_enter Tryz.func45, Tryz.ntmps45
    go_wp2_with fail
    all_goals first | (go_ret; exact ⟨⟨_, rfl⟩, (by (repeat (first | exact Below.refl _ _ | assumption | refine balloc ?_ _ | refine bdrew ?_ | refine bdrewN ?_ _ | refine bchain ?_ (by assumption))))⟩) | skip
    go_loopw [38, 1] (fun i s wr => ∃ k : Nat, ∃ r : Int, k ≤ ks.length ∧ i = .int .i64 k ∧ s = .int .i64 r ∧ Below w.heap.size w wr) (fun i _ _ => ks.length - (intOf i).toNat)
    case atStart => exact ⟨0, _, Nat.zero_le _, rfl, rfl, (by (repeat (first | exact Below.refl _ _ | assumption | refine balloc ?_ _ | refine bdrew ?_ | refine bdrewN ?_ _ | refine bchain ?_ (by assumption))))⟩
    case round =>
      obtain ⟨k, r, hk', rfl, rfl, hbel⟩ := hrel
      have hkl : ks.length ≤ maxLen := hk
      have hml : maxLen = 9223372036854775807 := rfl
      rcases Nat.lt_or_ge k ks.length with hlt | hge
      · obtain ⟨g, o, rfl, hg, hc⟩ := h4 (by intro h; subst h; simp at hlt)
        obtain ⟨x, hx⟩ : ∃ x, ks[k]? = some x := ⟨_, List.getElem?_eq_getElem hlt⟩
        have hq := (h5 k x hx).kept hbel hB
        obtain ⟨B1, B2, B3, B4, d1, d2, d3, d4, e, x0, x1, x2, x3, x4, x5, x6, x7, x8, x9, x10, x11, x12, x13, x14⟩ := kid_cells hq (fun j u hu => (hbel.cell (p := ⟨g, o + k * 15 + j, none⟩) (Nat.lt_of_lt_of_le hg hB)).trans (hc k hlt j u hu))
        have IH := Lib.hid (fun W m (hW : Below w.heap.size w W) => ih x (List.mem_of_getElem? hx) _ B W m ((h5 k x hx).kept hW hB) (Nat.le_trans hB hW.size))
        rw [e] at IH
        unfold qcells at IH
        have hlt2 : (k : Int) < 9223372036854775807 := by omega
        clear hc h4 h5 ih hq e hx h1 h2 h3 hw
        go_wp2_with fail
        trace "1"
        go_at_call 45
        trace "2"
        refine (IH.out _ _ (by (repeat (first | exact Below.refl _ _ | assumption | refine balloc ?_ _ | refine bdrew ?_ | refine bdrewN ?_ _ | refine bchain ?_ (by assumption))))).mono ?_
        trace "3"
        rintro e w2 ⟨⟨r2, rfl⟩, hb2⟩
        clear IH hk hkl hml hk' x0 x1 x2 x3 x4 x5 x6 x7 x8 x9 x10 x11 x12 x13 x14
        rcases (by omega : r2 < 0 ∨ 0 ≤ r2) with hr | hr
        · have hd1 : decide (r2 < 0) = true := decide_eq_true hr
          clear hr
          go_wp2_with fail
          go_ret
          exact ⟨⟨_, rfl⟩, (by (repeat (first | exact Below.refl _ _ | assumption | refine balloc ?_ _ | refine bdrew ?_ | refine bdrewN ?_ _ | refine bchain ?_ (by assumption))))⟩
        · have hd1 : decide (r2 < 0) = false := decide_eq_false (by omega)
          clear hr
          trace "5"
          go_wp2_with fail
          trace_state
          go_roundw
          case rel => exact ⟨k + 1, _, by omega, by go_num, rfl, (by (repeat (first | exact Below.refl _ _ | assumption | refine balloc ?_ _ | refine bdrew ?_ | refine bdrewN ?_ _ | refine bchain ?_ (by assumption))))⟩
          case measure => simp [intOf]; omega
      · obtain rfl : k = ks.length := by omega
        go_wp2
        go_ret
        exact ⟨⟨_, rfl⟩, hbel⟩

set_option maxHeartbeats 2000000 in
theorem few_any (q : Qry) (cs : List Value) (B : Nat) (w : World) (m : Int) (hq : QVal w B cs q) (hB : B ≤ w.heap.size) :
    Calls Tryz.prog 12 #[.agg cs.toArray, .int .i64 m] w fun e w' => (∃ b : Bool, e = .returned (.bool b)) ∧ Below w.heap.size w w' := by
  have LA := Lib.hid (fun W m (hW : Below w.heap.size w W) => left_any q cs B W m (hq.kept hW hB) (Nat.le_trans hB hW.size))
  obtain ⟨hd, ks, A1, A2, A3, A4, c1, c2, c3, c4, kc, hw, hk, h1, h2, h3, h4, h5⟩ := hq
  clear hw h1 h2 h3 h4 h5
  go_enter Tryz.func12, Tryz.ntmps12
  go_wp2_with (go_at_call 45; refine (LA.out _ _ (by (repeat (first | exact Below.refl _ _ | assumption | refine balloc ?_ _ | refine bdrew ?_ | refine bdrewN ?_ _ | refine bchain ?_ (by assumption))))).mono ?_; rintro e w2 ⟨⟨r2, rfl⟩, hb2⟩)
  go_ret
  exact ⟨⟨_, rfl⟩, (by (repeat (first | exact Below.refl _ _ | assumption | refine balloc ?_ _ | refine bdrew ?_ | refine bdrewN ?_ _ | refine bchain ?_ (by assumption))))⟩
end Go.Proofs.YtkcfgcdlnojaeaaGreatDoor.QryLeft
