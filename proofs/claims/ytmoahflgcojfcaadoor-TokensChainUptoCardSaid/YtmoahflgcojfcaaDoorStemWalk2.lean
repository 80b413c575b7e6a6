/-
  The walks under tokens.Stem: short endings, the longest ending of a list, a step with a list.
-/
import Derived.Test.YtmoahflgcojfcaaDoorStemWalk
namespace Go.Proofs.YtmoahflgcojfcaaDoor.StemWalk2
set_option maxRecDepth 100000
open Go.RowKit Go.PlainAid StemPlain Base Vowels StemWalk

theorem wxy_yes (x : Int) (w : World) (h0 : 0 ≤ x) (h1 : x ≤ 255) (h : wxy x = true) :
    Calls Tryd.prog 62 #[.string ⟨#[119, 120, 121]⟩, .int .u8 x] w fun r w' => (∃ i : Int, r = .returned (.int .i64 i) ∧ 0 ≤ i) ∧ w' = w :=
  (indexByte_any _ x w).mono fun _ _ ⟨he, hw⟩ => ⟨⟨_, he, by have := ib_wxy x h0 h1; rw [h] at this; simpa using this⟩, hw⟩
theorem wxy_no (x : Int) (w : World) (h0 : 0 ≤ x) (h1 : x ≤ 255) (h : wxy x = false) :
    Calls Tryd.prog 62 #[.string ⟨#[119, 120, 121]⟩, .int .u8 x] w fun r w' => (∃ i : Int, r = .returned (.int .i64 i) ∧ i < 0) ∧ w' = w :=
  (indexByte_any _ x w).mono fun _ _ ⟨he, hw⟩ => ⟨⟨_, he, by have := ib_wxy x h0 h1; rw [h] at this; simpa using this⟩, hw⟩
theorem lsz_yes (x : Int) (w : World) (h0 : 0 ≤ x) (h1 : x ≤ 255) (h : lsz x = true) :
    Calls Tryd.prog 62 #[.string ⟨#[108, 115, 122]⟩, .int .u8 x] w fun r w' => (∃ i : Int, r = .returned (.int .i64 i) ∧ 0 ≤ i) ∧ w' = w :=
  (indexByte_any _ x w).mono fun _ _ ⟨he, hw⟩ => ⟨⟨_, he, by have := ib_lsz x h0 h1; rw [h] at this; simpa using this⟩, hw⟩
theorem lsz_no (x : Int) (w : World) (h0 : 0 ≤ x) (h1 : x ≤ 255) (h : lsz x = false) :
    Calls Tryd.prog 62 #[.string ⟨#[108, 115, 122]⟩, .int .u8 x] w fun r w' => (∃ i : Int, r = .returned (.int .i64 i) ∧ i < 0) ∧ w' = w :=
  (indexByte_any _ x w).mono fun _ _ ⟨he, hw⟩ => ⟨⟨_, he, by have := ib_lsz x h0 h1; rw [h] at this; simpa using this⟩, hw⟩

theorem shrt_small {s : ByteArray} (h : ¬ 3 ≤ s.size) : shrt s = false := by unfold shrt; simp [h]
theorem shrt_wxy {s : ByteArray} (h : wxy (bt s (s.size - 1)) = true) : shrt s = false := by unfold shrt; simp [h]
theorem shrt_else {s : ByteArray} (h : 3 ≤ s.size) (h' : wxy (bt s (s.size - 1)) = false) : shrt s = (!vow s (s.size - 3) && vow s (s.size - 2) && !vow s (s.size - 1)) := by unfold shrt; simp [h, h']

set_option maxHeartbeats 1000000 in
theorem endsShort_any (s : ByteArray) (w : World) (hs : s.size ≤ 281474976710656) :
    Calls Tryd.prog 57 #[.string s] w fun r w' => r = .returned (.bool (shrt s)) ∧ Below w.heap.size w w' := by
  have hb := get_bt s
  by_cases h3 : 3 ≤ s.size
  · have r0 := bt_nonneg s (s.size - 1)
    have r1 := bt_le s (s.size - 1)
    rcases hx : wxy (bt s (s.size - 1)) with _ | _
    · have d3 : decide ((s.size : Int) < 3) = false := by simp; omega
      have HS := Lib.hid (shrt_else h3 hx)
      have HX := Lib.hid hx
      clear hx
      go_enter Tryd.func57, Tryd.ntmps57
      go_wp2_with (first
        | (go_at_call 62; refine (wxy_no _ _ r0 r1 HX.out).mono ?_; rintro e w' ⟨⟨i, rfl, hi⟩, rfl⟩)
        | (go_at_call 81; refine (vowels_any _ _ hs).mono ?_; rintro e w1 ⟨A, c, rfl, hA, hb1⟩; obtain ⟨g, o, rfl, hg, hc⟩ := hA.at_ (by omega); have c1 := hc (s.size - 1) (by omega); have c2 := hc (s.size - 2) (by omega); have c3 := hc (s.size - 3) (by omega); clear hc hA))
      all_goals
        go_ret
        refine ⟨ret_bool ?_, hb1⟩
        rw [HS.out]
        simp [*]
    · have d3 : decide ((s.size : Int) < 3) = false := by simp; omega
      have HS := Lib.hid (shrt_wxy hx)
      have HX := Lib.hid hx
      clear hx
      go_enter Tryd.func57, Tryd.ntmps57
      go_wp2_with (go_at_call 62; refine (wxy_yes _ _ r0 r1 HX.out).mono ?_; rintro e w' ⟨⟨i, rfl, hi⟩, rfl⟩)
      go_ret
      exact ⟨ret_bool HS.out.symm, Below.refl _ _⟩
  · have d3 : decide ((s.size : Int) < 3) = true := by simp; omega
    have HS := Lib.hid (shrt_small h3)
    go_enter Tryd.func57, Tryd.ntmps57
    go_wp2
    go_ret
    exact ⟨ret_bool HS.out.symm, Below.refl _ _⟩

theorem hasSuffix_val {s e : ByteArray} {b : Bool} (h : sfx s e = b) (w : World) (hs : s.size ≤ 281474976710656) (he : e.size ≤ 281474976710656) :
    Calls Tryd.prog 33 #[.string s, .string e] w fun r w' => r = .returned (.bool b) ∧ w' = w := by
  subst h; exact hasSuffix_any s e w hs he

def pairCells : List (ByteArray × ByteArray) → List Value
  | [] => []
  | p :: r => .string p.1 :: .string p.2 :: pairCells r

theorem pairCells_at : ∀ (L : List (ByteArray × ByteArray)) (k : Nat) (p : ByteArray × ByteArray), L[k]? = some p → (pairCells L)[2 * k]? = some (.string p.1) ∧ (pairCells L)[2 * k + 1]? = some (.string p.2)
  | [], k, p, h => by simp at h
  | q :: r, 0, p, h => by simp at h; subst h; exact ⟨rfl, rfl⟩
  | q :: r, k + 1, p, h => by
    simp at h
    have := pairCells_at r k p h
    exact ⟨by show (_ :: _ :: pairCells r)[2 * k + 1 + 1]? = _; simpa using this.1, by show (_ :: _ :: pairCells r)[2 * k + 1 + 1 + 1]? = _; simpa using this.2⟩

theorem pairCells_ne {L : List (ByteArray × ByteArray)} (h : 0 < L.length) : pairCells L ≠ [] := by
  cases L with
  | nil => simp at h
  | cons p r => simp [pairCells]

/-- Where the best ending lies, as the slot holds it. -/
def atv : Option Nat → Int
  | none => -1
  | some j => 2 * (j : Int)

set_option maxHeartbeats 2000000 in
theorem longest_any (s : ByteArray) (L : List (ByteArray × ByteArray)) (A : Option Addr) (c B : Nat) (w : World) (hs : s.size ≤ 281474976710656) (hL : L.length ≤ 1000) (hLs : ∀ p ∈ L, p.1.size ≤ 1000) (hB : B ≤ w.heap.size) (hA : Slc w B A (pairCells L)) :
    Calls Tryd.prog 58 #[.string s, .slice A (2 * L.length) c] w fun r w' =>
      r = .returned (.tuple #[.string (lrest s L), .int .i64 (atv (bst s L L.length))]) ∧ Below w.heap.size w w' := by
  go_enter Tryd.func58, Tryd.ntmps58
  go_wp2
  go_loopw [6, 7] (fun t i wr => ∃ k : Nat, k ≤ L.length ∧ i = .int .i64 (2 * (k : Int)) ∧ t = .int .i64 (atv (bst s L k)) ∧ Below w.heap.size w wr) (fun _ i _ => 2 * L.length - (intOf i).toNat)
  case atStart => exact ⟨0, Nat.zero_le _, rfl, rfl, Below.refl _ _⟩
  case round =>
    obtain ⟨k, hk, rfl, rfl, hbel⟩ := hrel
    by_cases hlt : k < L.length
    · obtain ⟨g, o, rfl, hg, hc⟩ := (hA.below hbel hB) (pairCells_ne (by omega))
      obtain ⟨p, hp⟩ : ∃ p, L[k]? = some p := ⟨_, List.getElem?_eq_getElem hlt⟩
      have hps := hLs p (List.mem_of_getElem? hp)
      have c0 := hc (2 * k) _ (pairCells_at L k p hp).1
      have b1 : (0 : Int) ≤ 2 * (k : Int) := by omega
      have b2 : (2 : Int) * (k : Int) < ((2 * L.length : Nat) : Int) := by omega
      have b3 : (2 : Int) * (k : Int) < 2 * (L.length : Int) := by omega
      have b4 : ((2 : Int) * (k : Int)).toNat = 2 * k := by omega
      have hp1 : (p.1.size : Int) ≤ 1000 := by omega
      have keep : ∀ n, Below w.heap.size w (wr.drewN n) := fun n => hbel.trans ⟨rfl, rfl, rfl, Nat.le_refl _, fun _ _ => rfl⟩
      have KEEP := Lib.hid keep
      clear keep
      rcases hsx : sfx s p.1 with _ | _
      · have HN := Lib.hid (bst_no hp hsx)
        have HX := Lib.hid hsx
        clear hc hA hsx
        go_wp2_with fail
        go_big_quiet ((go_at_call 33; exact Calls.quiet_of_same (hasSuffix_val HX.out _ hs (by omega))))
        go_wp2
        go_roundw
        case rel => exact ⟨k + 1, by omega, by go_num, by rw [HN.out], KEEP.out _⟩
        case measure => simp [intOf]; omega
      · rcases hbs : bst s L k with _ | j
        · have HN := Lib.hid (bst_new hp hsx hbs)
          have HX := Lib.hid hsx
          clear hc hA hsx hbs
          simp only [atv]
          go_wp2_with fail
          go_big_quiet ((go_at_call 33; exact Calls.quiet_of_same (hasSuffix_val HX.out _ hs (by omega))))
          go_wp2
          go_roundw
          case rel => exact ⟨k + 1, by omega, by go_num, by rw [HN.out], KEEP.out _⟩
          case measure => simp [intOf]; omega
        · obtain ⟨hjk, q, hq, hsq⟩ := bst_lt s L k j hbs
          have hqs := hLs q (List.mem_of_getElem? hq)
          have c1 := hc (2 * j) _ (pairCells_at L j q hq).1
          have e1 : (0 : Int) ≤ 2 * (j : Int) := by omega
          have e2 : (2 : Int) * (j : Int) < ((2 * L.length : Nat) : Int) := by omega
          have e3 : (2 : Int) * (j : Int) < 2 * (L.length : Int) := by omega
          have e4 : ((2 : Int) * (j : Int)).toNat = 2 * j := by omega
          have d1 : decide ((2 : Int) * (j : Int) < 0) = false := by simp; omega
          by_cases hsz : q.1.size < p.1.size
          · have HN := Lib.hid (bst_up hp hsx hbs hq hsz)
            have HX := Lib.hid hsx
            have d2 : decide ((q.1.size : Int) < (p.1.size : Int)) = true := by simp; omega
            clear hc hA hsx hbs hsq
            simp only [atv]
            go_wp2_with fail
            go_big_quiet ((go_at_call 33; exact Calls.quiet_of_same (hasSuffix_val HX.out _ hs (by omega))))
            go_wp2
            go_roundw
            case rel => exact ⟨k + 1, by omega, by go_num, by rw [HN.out], KEEP.out _⟩
            case measure => simp [intOf]; omega
          · have HN := Lib.hid (bst_stay hp hsx hbs hq hsz)
            have HX := Lib.hid hsx
            have d2 : decide ((q.1.size : Int) < (p.1.size : Int)) = false := by simp; omega
            clear hc hA hsx hbs hsq
            simp only [atv]
            go_wp2_with fail
            go_big_quiet ((go_at_call 33; exact Calls.quiet_of_same (hasSuffix_val HX.out _ hs (by omega))))
            go_wp2
            go_roundw
            case rel => exact ⟨k + 1, by omega, by go_num, by rw [HN.out], KEEP.out _⟩
            case measure => simp [intOf]; omega
    · obtain rfl : k = L.length := by omega
      rcases hbs : bst s L L.length with _ | j
      · have HN := Lib.hid (lrest_none hbs)
        have HB := Lib.hid hbs
        clear hbs
        simp only [atv]
        go_wp2
        go_ret2
        refine ⟨?_, hbel⟩
        rw [HN.out, HB.out]
        rfl
      · obtain ⟨hjk, q, hq, hsq⟩ := bst_lt s L L.length j hbs
        have hle := sfx_le hsq
        have HN := Lib.hid (lrest_some hbs hq)
        have HB := Lib.hid hbs
        obtain ⟨g, o, rfl, hg, hc⟩ := (hA.below hbel hB) (pairCells_ne (by omega))
        have c1 := hc (2 * j) _ (pairCells_at L j q hq).1
        have e2 : (2 : Int) * (j : Int) < ((2 * L.length : Nat) : Int) := by omega
        have e4 : ((2 : Int) * (j : Int)).toNat = 2 * j := by omega
        clear hbs hc hA hsq
        simp only [atv]
        go_wp2
        go_ret2
        refine ⟨?_, hbel⟩
        rw [HN.out, HB.out]
        rfl
end Go.Proofs.YtmoahflgcojfcaaDoor.StemWalk2
