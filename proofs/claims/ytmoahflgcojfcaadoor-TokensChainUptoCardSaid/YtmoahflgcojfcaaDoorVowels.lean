/-
  The walks of tokens.vowels, measure and hasVowel.
-/
import Derived.Test.YtmoahflgcojfcaaDoorChecked
import Derived.Test.YtmoahflgcojfcaaDoorStemPlain
import Derived.Test.YtmoahflgcojfcaaDoorBase
import Derived.Deep.QuietTactic
import Derived.BigQuiet
namespace Go.Proofs.YtmoahflgcojfcaaDoor.Vowels
set_option maxRecDepth 100000
open Go.RowKit Go.PlainAid StemPlain Base

def vmid (s : ByteArray) (k : Nat) : List Value := (List.range s.size).map fun j => .bool (decide (j < k) && vow s j)
def vowCells (s : ByteArray) : List Value := (List.range s.size).map fun j => .bool (vow s j)

theorem vmid_zero (s : ByteArray) : vmid s 0 = List.replicate s.size (.bool false) := by
  unfold vmid
  apply List.ext_getElem?
  intro j
  by_cases h : j < s.size <;> simp [h]
theorem vmid_all (s : ByteArray) : vmid s s.size = vowCells s := by
  unfold vmid vowCells
  apply List.map_congr_left
  intro j hj
  have := List.mem_range.1 hj
  simp [this]
theorem vmid_set (s : ByteArray) (k : Nat) {u : Bool} (h : u = vow s k) : (vmid s k).set k (.bool u) = vmid s (k + 1) := by
  subst h
  unfold vmid
  apply List.ext_getElem?
  intro j
  rw [List.getElem?_set]
  by_cases hj : j < s.size
  · by_cases hk : k = j
    · subst hk; simp [hj]
    · rw [if_neg hk]
      have : decide (j < k + 1) = decide (j < k) := by rw [Bool.eq_iff_iff]; simp; omega
      simp [hj, this]
  · by_cases hk : k = j
    · subst hk; simp [hj]
    · rw [if_neg hk]; simp [hj]
theorem vmid_same (s : ByteArray) (k : Nat) (h : vow s k = false) : vmid s k = vmid s (k + 1) := by
  unfold vmid
  apply List.map_congr_left
  intro j hj
  by_cases hk : j = k
  · subst hk; simp [h]
  · have : decide (j < k + 1) = decide (j < k) := by rw [Bool.eq_iff_iff]; simp; omega
    rw [this]
theorem vmid_at (s : ByteArray) (k j : Nat) (h : j < s.size) : (vmid s k)[j]? = some (.bool (decide (j < k) && vow s j)) := by
  unfold vmid; simp [h]

theorem vow_av {s : ByteArray} {k : Nat} (h : av (bt s k) = true) : vow s k = true := by
  cases k with
  | zero => exact h
  | succ k => unfold vow; rw [h]; rfl
theorem vow_y {s : ByteArray} {k : Nat} (h : bt s k = 121) (hk : 0 < k) : vow s k = !vow s (k - 1) := by
  cases k with
  | zero => omega
  | succ k =>
    show (av (bt s (k + 1)) || (bt s (k + 1) == 121 && !vow s k)) = !vow s k
    have e : av 121 = false := rfl
    rw [h, e]
    simp
theorem vow_y0 {s : ByteArray} (h : bt s 0 = 121) : vow s 0 = false := by
  unfold vow av; rw [h]; rfl
theorem vow_no {s : ByteArray} {k : Nat} (h : av (bt s k) = false) (h' : bt s k ≠ 121) : vow s k = false := by
  cases k with
  | zero => exact h
  | succ k => unfold vow; rw [h]; simp [h']

theorem boolElem : (Tryd.prog.info? 4).map (fun i => (i.zero, i.size, i.bytes)) = some (some (.bool false), 1, 1) := by kernel_rfl

set_option maxHeartbeats 2000000 in
theorem vowels_any (s : ByteArray) (w : World) (hs : s.size ≤ 281474976710656) :
    Calls Tryd.prog 81 #[.string s] w fun e w' => ∃ A c, e = .returned (.slice A s.size c) ∧ Slc w' w'.heap.size A (vowCells s) ∧ Below w.heap.size w w' := by
  obtain ⟨i0, hi, hz0, hz1, hz2⟩ := info_parts boolElem
  go_enter Tryd.func81, Tryd.ntmps81
  go_wp2_with (at_make; refine wpList_make_full _ rfl _ _ 107 rfl w.heap.size 4 i0 _ 1 Tryd.underlying107 hi hz0 hz1 .i64 .i64 _ _ s.size rfl rfl rfl rfl (by rw [hz2]; omega) (by unfold maxLen; omega) (Nat.le_refl _) ?_)
  intro w1 hown1 hg1
  have hown : w1.ownsRow w.heap.size 4 1 (.slice (some ⟨w.heap.size, 0, none⟩) s.size s.size) s.size (vmid s 0) := by
    rw [vmid_zero, ← toList_madeCells_one]; simpa [Value.cells] using hown1
  have hbel1 : Below w.heap.size w w1 := (Below.refl _ _).grown hg1 (Nat.le_refl _) (by simp)
  clear hown1 hg1
  go_wp2
  go_loopw [10] (fun i wr => ∃ k : Nat, k ≤ s.size ∧ i = .int .i64 k ∧ wr.ownsRow w.heap.size 4 1 (.slice (some ⟨w.heap.size, 0, none⟩) s.size s.size) s.size (vmid s k) ∧ Below w.heap.size w wr) (fun i _ => s.size - (intOf i).toNat)
  case atStart => exact ⟨0, Nat.zero_le _, rfl, hown, hbel1⟩
  case round =>
    clear hown hbel1
    obtain ⟨k, hk, rfl, hown, hbel⟩ := hrel
    by_cases hlt : k < s.size
    · have hb := get_bt s
      have hf := hown.frozenAt k
      have hc : wr.cell? ⟨w.heap.size, k, none⟩ = some (.bool false) := by rw [hown.cellAt k (by omega), vmid_at s k k hlt]; simp
      have hst := fun u => (hown.stored k (.bool u)).1
      have HST := Lib.hid hst
      clear hst
      have hbs := fun u => hbel.setCell (p := ⟨w.heap.size, k, none⟩) (Nat.le_refl _) u
      have HBS := Lib.hid hbs
      clear hbs
      rcases hav : av (bt s k) with _ | _
      · have hn : bt s k ≠ 97 ∧ bt s k ≠ 101 ∧ bt s k ≠ 105 ∧ bt s k ≠ 111 ∧ bt s k ≠ 117 := by unfold av at hav; simpa [and_assoc] using hav
        obtain ⟨n1, n2, n3, n4, n5⟩ := hn
        by_cases hy : bt s k = 121
        · have HY := Lib.hid hy
          by_cases h0 : k = 0
          · subst h0
            clear hy
            have hy' : (bt s 0 == 121) = true := by simpa using HY.out
            have hav' := hav
            go_wp2
            go_roundw
            case rel => exact ⟨0 + 1, by omega, by go_num, by rw [← vmid_set s 0 (u := false) (vow_y0 HY.out).symm]; exact HST.out _, HBS.out _⟩
            case measure => simp [intOf]; omega
          · have hy' : (bt s k == 121) = true := by simpa using hy
            have hk0 : 0 < k := by omega
            clear hy
            have hp : wr.cell? ⟨w.heap.size, k - 1, none⟩ = some (.bool (vow s (k - 1))) := by
              rw [hown.cellAt (k - 1) (by omega), vmid_at s k (k - 1) (by omega)]
              have : k - 1 < k := by omega
              simp [this]
            go_wp2
            go_roundw
            case rel => exact ⟨k + 1, by omega, by go_num, by rw [← vmid_set s k (u := !vow s (k - 1)) (vow_y HY.out (by omega)).symm]; exact HST.out _, HBS.out _⟩
            case measure => simp [intOf]; omega
        · have hn6 : (bt s k == 121) = false := by simpa using hy
          go_wp2
          go_roundw
          case rel => exact ⟨k + 1, by omega, by go_num, by rw [← vmid_same s k (vow_no hav hy)]; exact hown, hbel⟩
          case measure => simp [intOf]; omega
      · have hv := vow_av hav
        have HV := Lib.hid hv
        have hn : bt s k = 97 ∨ bt s k = 101 ∨ bt s k = 105 ∨ bt s k = 111 ∨ bt s k = 117 := by unfold av at hav; simpa [or_assoc] using hav
        clear hv hav
        go_wp2
        all_goals (try (exfalso; omega))
        all_goals
          go_roundw
          case rel => exact ⟨k + 1, by omega, by go_num, by rw [← vmid_set s k (u := true) HV.out.symm]; exact HST.out _, HBS.out _⟩
          case measure => simp [intOf]; omega
    · obtain rfl : k = s.size := by omega
      go_wp2
      go_ret
      rw [vmid_all] at hown
      exact ⟨_, _, rfl, slc_own hown, hbel⟩

theorem meas_step {s : ByteArray} {k : Nat} (hk : 1 ≤ k) : msTo s k = msTo s (k - 1) + (if vow s (k - 1) && !vow s k then 1 else 0) := by
  obtain ⟨j, rfl⟩ : ∃ j, k = j + 1 := ⟨k - 1, by omega⟩
  rfl

set_option maxHeartbeats 2000000 in
theorem measure_any (s : ByteArray) (w : World) (hs : s.size ≤ 281474976710656) :
    Calls Tryd.prog 56 #[.string s] w fun e w' => e = .returned (.int .i64 (meas s)) ∧ Below w.heap.size w w' := by
  go_enter Tryd.func56, Tryd.ntmps56
  go_wp2_with (go_at_call 81; refine (vowels_any _ _ hs).mono ?_; rintro e w1 ⟨A, c, rfl, hA, hb1⟩)
  go_loopw [3, 5] (fun n i wr => ∃ k : Nat, 1 ≤ k ∧ (k ≤ s.size ∨ k = 1) ∧ i = .int .i64 k ∧ n = .int .i64 (msTo s (k - 1)) ∧ Below w1.heap.size w1 wr) (fun _ i _ => s.size - (intOf i).toNat)
  case atStart => exact ⟨1, by omega, .inr rfl, rfl, rfl, Below.refl _ _⟩
  case round =>
    obtain ⟨k, hk, hk2, rfl, rfl, hbel⟩ := hrel
    by_cases hlt : k < s.size
    · obtain ⟨g, o, rfl, hg, hc⟩ := (hA.below hbel (Nat.le_refl _)).at_ (by omega)
      have c1 := hc (k - 1) (by omega)
      have c2 := hc k hlt
      have hm := msTo_le s (k - 1)
      have HM := Lib.hid (meas_step (s := s) hk)
      clear hc hA
      have e0 : o + k - 1 = o + (k - 1) := by omega
      rcases v1 : vow s (k - 1) with _ | _ <;> rcases v2 : vow s k with _ | _ <;> rw [v1] at c1 <;> rw [v2] at c2 <;> have H1 := Lib.hid v1 <;> have H2 := Lib.hid v2 <;> clear v1 v2
      all_goals
        go_wp2
        go_roundw
        case rel => exact ⟨k + 1, by omega, .inl (by omega), by go_num, by rw [show k + 1 - 1 = k by omega, HM.out, H1.out, H2.out]; first | rfl | go_num, hbel⟩
        case measure => simp [intOf]; omega
    · go_wp2
      go_ret
      refine ⟨?_, hb1.trans (hbel.mono hb1.size)⟩
      have e : s.size - 1 = k - 1 := by omega
      unfold meas
      rw [e]
      rfl

theorem hasTo_true {s : ByteArray} : ∀ {n k : Nat}, k < n → vow s k = true → hasTo s n = true := by
  intro n
  induction n with
  | zero => intro k h; omega
  | succ n ih =>
    intro k h hv
    unfold hasTo
    by_cases e : k = n
    · subst e; rw [hv]; simp
    · rw [ih (by omega) hv]; rfl

set_option maxHeartbeats 2000000 in
theorem hasVowel_any (s : ByteArray) (w : World) (hs : s.size ≤ 281474976710656) :
    Calls Tryd.prog 60 #[.string s] w fun e w' => e = .returned (.bool (hasV s)) ∧ Below w.heap.size w w' := by
  go_enter Tryd.func60, Tryd.ntmps60
  go_wp2_with (go_at_call 81; refine (vowels_any _ _ hs).mono ?_; rintro e w1 ⟨A, c, rfl, hA, hb1⟩)
  go_loopw [8] (fun i wr => ∃ k : Nat, k ≤ s.size ∧ i = .int .i64 k ∧ hasTo s k = false ∧ Below w1.heap.size w1 wr) (fun i _ => s.size - (intOf i).toNat)
  case atStart => exact ⟨0, by omega, rfl, rfl, Below.refl _ _⟩
  case round =>
    obtain ⟨k, hk, rfl, hno, hbel⟩ := hrel
    have HNO := Lib.hid hno
    clear hno
    by_cases hlt : k < s.size
    · obtain ⟨g, o, rfl, hg, hc⟩ := (hA.below hbel (Nat.le_refl _)).at_ (by omega)
      have c2 := hc k hlt
      clear hc hA
      rcases v2 : vow s k with _ | _ <;> rw [v2] at c2 <;> have H2 := Lib.hid v2 <;> clear v2
      · go_wp2
        go_roundw
        case rel => exact ⟨k + 1, by omega, by go_num, by unfold hasTo; rw [HNO.out, H2.out]; rfl, hbel⟩
        case measure => simp [intOf]; omega
      · go_wp2
        go_ret
        exact ⟨by rw [show hasV s = true from hasTo_true hlt H2.out]; rfl, hb1.trans (hbel.mono hb1.size)⟩
    · obtain rfl : k = s.size := by omega
      go_wp2
      go_ret
      exact ⟨by rw [show hasV s = false from HNO.out]; rfl, hb1.trans (hbel.mono hb1.size)⟩
end Go.Proofs.YtmoahflgcojfcaaDoor.Vowels
