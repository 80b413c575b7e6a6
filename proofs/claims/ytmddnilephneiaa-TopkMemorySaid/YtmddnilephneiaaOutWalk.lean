/-
  The walks of the laws' ahead, sorted, count.
-/
import Derived.Test.YtmddnilephneiaaFixed
namespace Go.Proofs.Ytmddnilephneiaa.OutWalk
open Go.RowKit Go.PlainAid HitPlain HeapPlain KeepPlain Base HitBase PushWalk OfferWalk KeepWalk TopkWalk

theorem btr_ahead (i s j t : Int) : btr (i, s) (j, t) = (decide (t < s) || (decide (s = t) && decide (i < j))) := by
  unfold btr
  by_cases h : s = t
  · subst h; simp
  · simp [h]

set_option maxHeartbeats 1000000 in
theorem ahead_any (i s j t : Int) (w : World) :
    Calls Try.prog 20 #[.agg #[.int .i64 i, .int .u64 s], .agg #[.int .i64 j, .int .u64 t]] w fun e w' => e = .returned (.bool (btr (i, s) (j, t))) ∧ Below w.heap.size w w' := by
  have HB := Lib.hid (btr_ahead i s j t)
  by_cases h1 : t < s
  · go_enter Try.func20, Try.ntmps20
    go_wp2_with fail
    go_ret
    refine ⟨ret_bool ?_, by (repeat (first | exact Below.refl _ _ | assumption | refine balloc ?_ _ | refine bdrew ?_ | refine bdrewN ?_ _ | refine bchain ?_ (by assumption)))⟩
    rw [HB.out]
    simp [h1]
  · by_cases h2 : s = t
    · subst h2
      go_enter Try.func20, Try.ntmps20
      go_wp2_with fail
      go_ret
      refine ⟨ret_bool ?_, by (repeat (first | exact Below.refl _ _ | assumption | refine balloc ?_ _ | refine bdrew ?_ | refine bdrewN ?_ _ | refine bchain ?_ (by assumption)))⟩
      rw [HB.out]
      simp
    · have h3 : (s == t) = false := by simpa using h2
      go_enter Try.func20, Try.ntmps20
      go_wp2_with fail
      go_ret
      refine ⟨ret_bool ?_, by (repeat (first | exact Below.refl _ _ | assumption | refine balloc ?_ _ | refine bdrew ?_ | refine bdrewN ?_ _ | refine bchain ?_ (by assumption)))⟩
      rw [HB.out]
      simp [h1, h2]

set_option maxRecDepth 100000 in
set_option maxHeartbeats 2000000 in
theorem sorted_any (L : List Hit) (A : Option Addr) (c B : Nat) (w : World) (hB : B ≤ w.heap.size) (h : Slc w B A (hc L)) (hn : L.length ≤ 8796093022208) (hs : Srt L) :
    Calls Try.prog 17 #[.slice A L.length c] w fun e w' => e = .returned (.bool true) ∧ Below w.heap.size w w' := by
  have HS := Lib.hid hs
  clear hs
  go_enter Try.func17, Try.ntmps17
  go_wp2_with fail
  go_loopw [3] (fun i wr => ∃ j : Nat, j ≤ L.length ∧ i = .int .i64 ((j : Int) + 1) ∧ Below w.heap.size w wr) (fun i _ => L.length + 1 - (intOf i).toNat)
  case atStart => exact ⟨0, by omega, rfl, Below.refl _ _⟩
  case round =>
    obtain ⟨j, hj, rfl, hbr⟩ := hrel
    by_cases hlt : j + 1 < L.length
    · obtain ⟨⟨x1, x2⟩, hx⟩ : ∃ x, L[j + 1]? = some x := ⟨_, List.getElem?_eq_getElem hlt⟩
      obtain ⟨⟨y1, y2⟩, hy⟩ : ∃ y, L[j]? = some y := ⟨_, List.getElem?_eq_getElem (by omega)⟩
      obtain ⟨g2, o2, rfl, hg2, a2⟩ := slc_at (h.below hbr hB) (by intro e; rw [e] at hlt; simp at hlt)
      obtain ⟨q0, q1⟩ := a2 (j + 1) _ hx
      obtain ⟨p0, p1⟩ := a2 j _ hy
      have HB : Hid (btr (x1, x2) (y1, y2) = false) := Lib.hid (by
        obtain ⟨hj1, e1⟩ := List.getElem?_eq_some_iff.1 hx
        obtain ⟨hj2, e2⟩ := List.getElem?_eq_some_iff.1 hy
        have := List.pairwise_iff_getElem.1 HS.out j (j + 1) hj2 hj1 (by omega)
        rwa [e1, e2] at this)
      clear a2 hx hy
      have i1 : (0 : Int) ≤ (j : Int) + 1 := by omega
      have i2 : (j : Int) + 1 < (L.length : Int) := by omega
      have i3 : ((j : Int) + 1).toNat = j + 1 := by omega
      have i4 : (0 : Int) ≤ (j : Int) := by omega
      have i6 : IntKind.i64.wrap ((j : Int) + 1 - 1) = (j : Int) := by rw [IntWalk.i64_in _ (by omega)]; omega
      have i7 : IntKind.i64.wrap (j : Int) = (j : Int) := IntWalk.i64_in _ (by omega)
      have i5 : (j : Int) < (L.length : Int) := by omega
      go_wp2_with fail
      go_still_tail 9, (by kernel_rfl)
      go_wp2_with (go_at_call 20; refine (ahead_any _ _ _ _ _).mono ?_; rw [HB.out]; rintro e w4 ⟨rfl, hb4⟩)
      go_roundw
      case rel => exact ⟨j + 1, by omega, by go_num, hbr.trans ((bdrew (Below.refl _ _)).trans hb4 |>.mono hbr.size)⟩
      case measure => simp [intOf]; omega
    · have hlt2 : ¬ (j : Int) + 1 < (L.length : Int) := by omega
      go_wp2_with fail
      go_ret
      exact ⟨rfl, hbr⟩

set_option maxHeartbeats 2000000 in
theorem count_any (L : List Hit) (A : Option Addr) (c B : Nat) (h1 h2 : Int) (w : World) (hB : B ≤ w.heap.size) (h : Slc w B A (hc L)) (hn : L.length ≤ 8796093022208) :
    Calls Try.prog 19 #[.slice A L.length c, .agg #[.int .i64 h1, .int .u64 h2]] w fun e w' => e = .returned (.int .i64 (L.count (h1, h2))) ∧ Below w.heap.size w w' := by
  have hb0 : Below w.heap.size w (w.alloc (.cells #[.int .i64 h1, .int .u64 h2] 29)) := (Below.refl _ _).alloc (Nat.le_refl _) _
  have b0 : (w.alloc (.cells #[.int .i64 h1, .int .u64 h2] 29)).cell? ⟨w.heap.size, 0, none⟩ = some (.int .i64 h1) := by rw [World.cell?_alloc_mark]; rfl
  have b1 : (w.alloc (.cells #[.int .i64 h1, .int .u64 h2] 29)).cell? ⟨w.heap.size, 1, none⟩ = some (.int .u64 h2) := by rw [World.cell?_alloc_mark]; rfl
  have hs0 : (w.alloc (.cells #[.int .i64 h1, .int .u64 h2] 29)).heap.size = w.heap.size + 1 := by simp
  generalize hw0 : w.alloc (.cells #[.int .i64 h1, .int .u64 h2] 29) = w0 at hb0 b0 b1 hs0
  have HW0 := Lib.hid hw0
  have HS0 := Lib.hid hs0
  clear hw0 hs0
  go_enter Try.func19, Try.ntmps19
  go_wp2_with fail
  rw [HW0.out]
  go_loopw [5, 10] (fun v5 i wr => ∃ j : Nat, j ≤ L.length ∧ i = .int .i64 j ∧ v5 = .int .i64 ((L.take j).count (h1, h2) : Nat) ∧ Below (w.heap.size + 1) w0 wr) (fun _ i _ => L.length - (intOf i).toNat)
  case atStart => exact ⟨0, Nat.zero_le _, rfl, rfl, Below.refl _ _⟩
  case round =>
    obtain ⟨j, hj, rfl, rfl, hbr⟩ := hrel
    have hsr := hbr.size
    rw [HS0.out] at hsr
    have hbw : Below w.heap.size w wr := hb0.trans (hbr.mono (by omega))
    have hcl : (L.take j).count (h1, h2) ≤ j := by
      have := List.count_le_length (a := ((h1, h2) : Hit)) (l := L.take j)
      rw [List.length_take] at this
      omega
    by_cases hlt : j < L.length
    · obtain ⟨⟨x1, x2⟩, hx⟩ : ∃ x, L[j]? = some x := ⟨_, List.getElem?_eq_getElem hlt⟩
      obtain ⟨g2, o2, rfl, hg2, a2⟩ := slc_at (h.below hbw hB) (by intro e; rw [e] at hlt; simp at hlt)
      obtain ⟨q0, q1⟩ := a2 j _ hx
      have c0 : wr.cell? ⟨w.heap.size, 0, none⟩ = some (.int .i64 h1) := (hbr.cell (p := ⟨w.heap.size, 0, none⟩) (by show w.heap.size < _; omega)).trans b0
      have c1 : wr.cell? ⟨w.heap.size, 1, none⟩ = some (.int .u64 h2) := (hbr.cell (p := ⟨w.heap.size, 1, none⟩) (by show w.heap.size < _; omega)).trans b1
      have hbx : Below wr.heap.size wr (wr.alloc (.cells #[.int .i64 x1, .int .u64 x2] 29)) := (Below.refl _ _).alloc (Nat.le_refl _) _
      have e0 : (wr.alloc (.cells #[.int .i64 x1, .int .u64 x2] 29)).cell? ⟨w.heap.size, 0, none⟩ = some (.int .i64 h1) := (hbx.cell (p := ⟨w.heap.size, 0, none⟩) (by show w.heap.size < _; omega)).trans c0
      have e1 : (wr.alloc (.cells #[.int .i64 x1, .int .u64 x2] 29)).cell? ⟨w.heap.size, 1, none⟩ = some (.int .u64 h2) := (hbx.cell (p := ⟨w.heap.size, 1, none⟩) (by show w.heap.size < _; omega)).trans c1
      have hbrx : Below (w.heap.size + 1) w0 (wr.alloc (.cells #[.int .i64 x1, .int .u64 x2] 29)) := hbr.trans (hbx.mono hsr)
      have ht : Hid (L.take (j + 1) = L.take j ++ [(x1, x2)]) := Lib.hid (take_snoc hx)
      clear a2 hx
      by_cases hq : x1 = h1 ∧ x2 = h2
      · obtain ⟨rfl, rfl⟩ := hq
        go_wp2_with fail
        go_roundw
        case rel => exact ⟨j + 1, by omega, by go_num, by rw [ht.out, List.count_append]; simp, hbrx⟩
        case measure => simp [intOf]; omega
      · have HN : Hid (¬ ((x1, x2) : Hit) = (h1, h2)) := Lib.hid (by simpa using hq)
        rcases (by omega : x1 ≠ h1 ∨ (x1 = h1 ∧ x2 ≠ h2)) with hd | ⟨rfl, hd⟩
        · have hd1 : (x1 == h1) = false := by simpa using hd
          clear hq
          go_wp2_with fail
          go_roundw
          case rel => exact ⟨j + 1, by omega, by go_num, by rw [ht.out, List.count_append, List.count_singleton, if_neg (by simpa using fun h => (HN.out h))]; simp, hbrx⟩
          case measure => simp [intOf]; omega
        · have hd1 : (x2 == h2) = false := by simpa using hd
          clear hq
          go_wp2_with fail
          go_roundw
          case rel => exact ⟨j + 1, by omega, by go_num, by rw [ht.out, List.count_append, List.count_singleton, if_neg (by simpa using fun h => (HN.out h))]; simp, hbrx⟩
          case measure => simp [intOf]; omega
    · obtain rfl : j = L.length := by omega
      go_wp2_with fail
      go_ret
      refine ⟨?_, hbw⟩
      rw [List.take_length]
      rfl
end Go.Proofs.Ytmddnilephneiaa.OutWalk
