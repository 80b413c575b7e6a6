/-
  The walks of Size and left over any query.
-/
import Derived.Test.YtkcfgcdlnojaeaaGreatDoorQuery
import Derived.Test.YtkcfgcdlnojaeaaGreatDoorChecked
namespace Go.Proofs.YtkcfgcdlnojaeaaGreatDoor.QrySize
set_option maxRecDepth 100000
open Go.RowKit Go.PlainAid Base Query

/-- The cells of a query that lie at g, p. -/
structure QAt (w : World) (g p : Nat) (hd : Head) (nk : Nat) (A1 A2 A3 A4 : Option Addr) (c1 c2 c3 c4 : Nat) : Prop where
  y0 : w.cell? ⟨g, p, none⟩ = some (.int .i64 hd.kind)
  y1 : w.cell? ⟨g, p + 1, none⟩ = some (.int .i64 hd.field)
  y2 : w.cell? ⟨g, p + 2, none⟩ = some (.string hd.text)
  y3 : w.cell? ⟨g, p + 3, none⟩ = some (.slice A1 hd.terms.length c1)
  y4 : w.cell? ⟨g, p + 4, none⟩ = some (.slice A2 hd.offs.length c2)
  y5 : w.cell? ⟨g, p + 5, none⟩ = some (.int .i64 hd.n)
  y6 : w.cell? ⟨g, p + 6, none⟩ = some (.int .u64 hd.weight)
  y7 : w.cell? ⟨g, p + 7, none⟩ = some (.bool hd.lo.op)
  y8 : w.cell? ⟨g, p + 8, none⟩ = some (.bool hd.lo.inn)
  y9 : w.cell? ⟨g, p + 9, none⟩ = some (.string hd.lo.text)
  y10 : w.cell? ⟨g, p + 10, none⟩ = some (.bool hd.hi.op)
  y11 : w.cell? ⟨g, p + 11, none⟩ = some (.bool hd.hi.inn)
  y12 : w.cell? ⟨g, p + 12, none⟩ = some (.string hd.hi.text)
  y13 : w.cell? ⟨g, p + 13, none⟩ = some (.slice A3 hd.occur.length c3)
  y14 : w.cell? ⟨g, p + 14, none⟩ = some (.slice A4 nk c4)

/-- The fifteen values. -/
def qcells (hd : Head) (nk : Nat) (A1 A2 A3 A4 : Option Addr) (c1 c2 c3 c4 : Nat) : Array Value :=
  #[.int .i64 hd.kind, .int .i64 hd.field, .string hd.text, .slice A1 hd.terms.length c1, .slice A2 hd.offs.length c2, .int .i64 hd.n, .int .u64 hd.weight, .bool hd.lo.op, .bool hd.lo.inn, .string hd.lo.text, .bool hd.hi.op, .bool hd.hi.inn, .string hd.hi.text, .slice A3 hd.occur.length c3, .slice A4 nk c4]
theorem kid_cells {w : World} {g o i : Nat} {cs : List Value} {q : Qry} {B : Nat} (hq : QVal w B cs q) (hc : ∀ j u, cs[j]? = some u → w.cell? ⟨g, o + i * 15 + j, none⟩ = some u) :
    ∃ A1 A2 A3 A4 c1 c2 c3 c4, cs.toArray = qcells q.h q.kids.length A1 A2 A3 A4 c1 c2 c3 c4 ∧ QAt w g (o + i * 15) q.h q.kids.length A1 A2 A3 A4 c1 c2 c3 c4 := by
  obtain ⟨hd, ks, A1, A2, A3, A4, c1, c2, c3, c4, kc, hw, hk, h1, h2, h3, h4, h5⟩ := hq
  exact ⟨A1, A2, A3, A4, c1, c2, c3, c4, rfl, hc 0 _ rfl, hc 1 _ rfl, hc 2 _ rfl, hc 3 _ rfl, hc 4 _ rfl, hc 5 _ rfl, hc 6 _ rfl, hc 7 _ rfl, hc 8 _ rfl, hc 9 _ rfl, hc 10 _ rfl, hc 11 _ rfl, hc 12 _ rfl, hc 13 _ rfl, hc 14 _ rfl⟩

theorem sizes_take_succ {ks : List Qry} {i : Nat} {k : Qry} (h : ks[i]? = some k) : sizes (ks.take (i + 1)) = sizes (ks.take i) + k.size := by
  induction ks generalizing i with
  | nil => simp at h
  | cons x r ih =>
    cases i with
    | zero => simp at h; subst h; simp [sizes]
    | succ i =>
      simp at h
      simp only [List.take_succ_cons, sizes]
      rw [ih h]; omega

theorem wrap64_add (a b : Int) : wrap64 (wrap64 a + wrap64 b) = wrap64 (a + b) := by unfold wrap64; omega
theorem size_wrap (s x : Nat) : wrap64 (wrap64 (1 + (s : Int)) + wrap64 (x : Int)) = wrap64 ((1 + (s + x) : Nat) : Int) := by
  rw [wrap64_add]
  congr 1
  omega

set_option maxHeartbeats 2000000 in
theorem size_any (q : Qry) : ∀ (cs : List Value) (B : Nat) (w : World), QVal w B cs q → B ≤ w.heap.size →
    Calls Tryz.prog 20 #[.agg cs.toArray] w fun e w' => e = .returned (.int .i64 (wrap64 q.size)) ∧ Below w.heap.size w w' := by
  induction q using Qry.ind with
  | h q ih =>
    intro cs B w hq hB
    obtain ⟨hd, ks, A1, A2, A3, A4, c1, c2, c3, c4, kc, hw, hk, h1, h2, h3, h4, h5⟩ := hq
    simp only [Qry.kids] at ih
    go_enter Tryz.func20, Tryz.ntmps20
    go_wp2_with fail
    go_loopw [9, 3] (fun i s wr => ∃ k : Nat, k ≤ ks.length ∧ i = .int .i64 k ∧ s = .int .i64 (wrap64 ((1 + sizes (ks.take k) : Nat) : Int)) ∧ Below w.heap.size w wr) (fun i _ _ => ks.length - (intOf i).toNat)
    case atStart => exact ⟨0, Nat.zero_le _, rfl, by simp only [List.take_zero, sizes, Nat.add_zero]; kernel_rfl, (by (repeat (first | exact Below.refl _ _ | assumption | refine balloc ?_ _ | refine bdrew ?_ | refine bdrewN ?_ _ | refine bchain ?_ (by assumption))))⟩
    case round =>
      obtain ⟨k, hk', rfl, rfl, hbel⟩ := hrel
      have hkl : ks.length ≤ maxLen := hk
      have hml : maxLen = 9223372036854775807 := rfl
      rcases Nat.lt_or_ge k ks.length with hlt | hge
      · obtain ⟨g, o, rfl, hg, hc⟩ := h4 (by intro h; subst h; simp at hlt)
        obtain ⟨x, hx⟩ : ∃ x, ks[k]? = some x := ⟨_, List.getElem?_eq_getElem hlt⟩
        have hq := (h5 k x hx).kept hbel hB
        obtain ⟨B1, B2, B3, B4, d1, d2, d3, d4, e, x0, x1, x2, x3, x4, x5, x6, x7, x8, x9, x10, x11, x12, x13, x14⟩ := kid_cells hq (fun j u hu => (hbel.cell (p := ⟨g, o + k * 15 + j, none⟩) (Nat.lt_of_lt_of_le hg hB)).trans (hc k hlt j u hu))
        have IH := Lib.hid (fun W (hW : Below w.heap.size w W) => ih x (List.mem_of_getElem? hx) _ B W ((h5 k x hx).kept hW hB) (Nat.le_trans hB hW.size))
        rw [e] at IH
        unfold qcells at IH
        have hlt2 : (k : Int) < 9223372036854775807 := by omega
        have hs := sizes_take_succ hx
        clear hc h4 h5 ih hq e hx h1 h2 h3 hw
        go_wp2_with (go_at_call 20; refine (IH.out _ (by (repeat (first | exact Below.refl _ _ | assumption | refine balloc ?_ _ | refine bdrew ?_ | refine bdrewN ?_ _ | refine bchain ?_ (by assumption))))).mono ?_; rintro e w2 ⟨rfl, hb2⟩)
        go_roundw
        case rel =>
          refine ⟨k + 1, by omega, by go_num, ?_, (by (repeat (first | exact Below.refl _ _ | assumption | refine balloc ?_ _ | refine bdrew ?_ | refine bdrewN ?_ _ | refine bchain ?_ (by assumption))))⟩
          rw [hs]
          exact congrArg _ (size_wrap _ _)
        case measure => simp [intOf]; omega
      · obtain rfl : k = ks.length := by omega
        go_wp2
        go_ret
        rw [List.take_length]
        exact ⟨rfl, hbel⟩
set_option maxHeartbeats 2000000 in
theorem refSize_any (q : Qry) : ∀ (cs : List Value) (B : Nat) (w : World), QVal w B cs q → B ≤ w.heap.size →
    Calls Tryz.prog 43 #[.agg cs.toArray] w fun e w' => e = .returned (.int .i64 (wrap64 q.size)) ∧ Below w.heap.size w w' := by
  induction q using Qry.ind with
  | h q ih =>
    intro cs B w hq hB
    obtain ⟨hd, ks, A1, A2, A3, A4, c1, c2, c3, c4, kc, hw, hk, h1, h2, h3, h4, h5⟩ := hq
    simp only [Qry.kids] at ih
    go_enter Tryz.func43, Tryz.ntmps43
    go_wp2_with fail
    go_loopw [9, 3] (fun i s wr => ∃ k : Nat, k ≤ ks.length ∧ i = .int .i64 k ∧ s = .int .i64 (wrap64 ((1 + sizes (ks.take k) : Nat) : Int)) ∧ Below w.heap.size w wr) (fun i _ _ => ks.length - (intOf i).toNat)
    case atStart => exact ⟨0, Nat.zero_le _, rfl, by simp only [List.take_zero, sizes, Nat.add_zero]; kernel_rfl, (by (repeat (first | exact Below.refl _ _ | assumption | refine balloc ?_ _ | refine bdrew ?_ | refine bdrewN ?_ _ | refine bchain ?_ (by assumption))))⟩
    case round =>
      obtain ⟨k, hk', rfl, rfl, hbel⟩ := hrel
      have hkl : ks.length ≤ maxLen := hk
      have hml : maxLen = 9223372036854775807 := rfl
      rcases Nat.lt_or_ge k ks.length with hlt | hge
      · obtain ⟨g, o, rfl, hg, hc⟩ := h4 (by intro h; subst h; simp at hlt)
        obtain ⟨x, hx⟩ : ∃ x, ks[k]? = some x := ⟨_, List.getElem?_eq_getElem hlt⟩
        have hq := (h5 k x hx).kept hbel hB
        obtain ⟨B1, B2, B3, B4, d1, d2, d3, d4, e, x0, x1, x2, x3, x4, x5, x6, x7, x8, x9, x10, x11, x12, x13, x14⟩ := kid_cells hq (fun j u hu => (hbel.cell (p := ⟨g, o + k * 15 + j, none⟩) (Nat.lt_of_lt_of_le hg hB)).trans (hc k hlt j u hu))
        have IH := Lib.hid (fun W (hW : Below w.heap.size w W) => ih x (List.mem_of_getElem? hx) _ B W ((h5 k x hx).kept hW hB) (Nat.le_trans hB hW.size))
        rw [e] at IH
        unfold qcells at IH
        have hlt2 : (k : Int) < 9223372036854775807 := by omega
        have hs := sizes_take_succ hx
        clear hc h4 h5 ih hq e hx h1 h2 h3 hw
        go_wp2_with (go_at_call 43; refine (IH.out _ (by (repeat (first | exact Below.refl _ _ | assumption | refine balloc ?_ _ | refine bdrew ?_ | refine bdrewN ?_ _ | refine bchain ?_ (by assumption))))).mono ?_; rintro e w2 ⟨rfl, hb2⟩)
        go_roundw
        case rel =>
          refine ⟨k + 1, by omega, by go_num, ?_, (by (repeat (first | exact Below.refl _ _ | assumption | refine balloc ?_ _ | refine bdrew ?_ | refine bdrewN ?_ _ | refine bchain ?_ (by assumption))))⟩
          rw [hs]
          exact congrArg _ (size_wrap _ _)
        case measure => simp [intOf]; omega
      · obtain rfl : k = ks.length := by omega
        go_wp2
        go_ret
        rw [List.take_length]
        exact ⟨rfl, hbel⟩
end Go.Proofs.YtkcfgcdlnojaeaaGreatDoor.QrySize
