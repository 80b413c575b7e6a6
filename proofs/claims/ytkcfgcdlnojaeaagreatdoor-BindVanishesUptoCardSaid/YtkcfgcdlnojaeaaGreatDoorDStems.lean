/-
  The walks of tokens.vowels, measure and hasVowel.
  The walks of the small functions under tokens.Stem: endings, double, short, longest, replace.
  The walks under tokens.Stem: short endings, the longest ending of a list, a step with a list.
  The walks of tokens.replace, step2, step3, strings.CutSuffix.
  The walks of tokens.step1b to step5 and Stem.
  The walk of tokens.endsDouble.
  The walk of tokens.step1b.
  The walks of tokens.step4, step5 and Stem.
  The walks of tokens.step5 and Stem.
  The walk of tokens.Stem.
-/
import Derived.Test.YtkcfgcdlnojaeaaGreatDoorChecked
import Derived.Test.YtkcfgcdlnojaeaaGreatDoorDPlains
import Derived.Test.YtkcfgcdlnojaeaaGreatDoorBase
import Derived.Deep.QuietTactic
import Derived.BigQuiet
import Derived.Lib.Bytealg
import Derived.RegionTactic
import Derived.LoopN
import Derived.Deep.RegionWith
set_option linter.unusedVariables false
set_option linter.unusedSimpArgs false
namespace Go.Proofs.YtkcfgcdlnojaeaaGreatDoor.Vowels
set_option maxRecDepth 100000
open Go.RowKit Go.PlainAid StemPlain Base

def vmid (s : ByteArray) (k : Nat) : List Value := (List.range s.size).map fun j => .bool (decide (j < k) && vow s j)
def vowCells (s : ByteArray) : List Value := (List.range s.size).map fun j => .bool (vow s j)

theorem vmid_zero (s : ByteArray) : vmid s 0 = List.replicate s.size (.bool false) := by
  unfold vmid
  apply List.ext_getElem?
  intro j
  by_cases h : j < s.size <;> simp [h]
theorem vmid_all (s : ByteArray) : vmid s s.size = vowCells s := by
  unfold vmid vowCells
  apply List.map_congr_left
  intro j hj
  have := List.mem_range.1 hj
  simp [this]
theorem vmid_set (s : ByteArray) (k : Nat) {u : Bool} (h : u = vow s k) : (vmid s k).set k (.bool u) = vmid s (k + 1) := by
  subst h
  unfold vmid
  apply List.ext_getElem?
  intro j
  rw [List.getElem?_set]
  by_cases hj : j < s.size
  · by_cases hk : k = j
    · subst hk; simp [hj]
    · rw [if_neg hk]
      have : decide (j < k + 1) = decide (j < k) := by rw [Bool.eq_iff_iff]; simp; omega
      simp [hj, this]
  · by_cases hk : k = j
    · subst hk; simp [hj]
    · rw [if_neg hk]; simp [hj]
theorem vmid_same (s : ByteArray) (k : Nat) (h : vow s k = false) : vmid s k = vmid s (k + 1) := by
  unfold vmid
  apply List.map_congr_left
  intro j hj
  by_cases hk : j = k
  · subst hk; simp [h]
  · have : decide (j < k + 1) = decide (j < k) := by rw [Bool.eq_iff_iff]; simp; omega
    rw [this]
theorem vmid_at (s : ByteArray) (k j : Nat) (h : j < s.size) : (vmid s k)[j]? = some (.bool (decide (j < k) && vow s j)) := by
  unfold vmid; simp [h]

theorem vow_av {s : ByteArray} {k : Nat} (h : av (bt s k) = true) : vow s k = true := by
  cases k with
  | zero => exact h
  | succ k => unfold vow; rw [h]; rfl
theorem vow_y {s : ByteArray} {k : Nat} (h : bt s k = 121) (hk : 0 < k) : vow s k = !vow s (k - 1) := by
  cases k with
  | zero => omega
  | succ k =>
    show (av (bt s (k + 1)) || (bt s (k + 1) == 121 && !vow s k)) = !vow s k
    have e : av 121 = false := rfl
    rw [h, e]
    simp
theorem vow_y0 {s : ByteArray} (h : bt s 0 = 121) : vow s 0 = false := by
  unfold vow av; rw [h]; rfl
theorem vow_no {s : ByteArray} {k : Nat} (h : av (bt s k) = false) (h' : bt s k ≠ 121) : vow s k = false := by
  cases k with
  | zero => exact h
  | succ k => unfold vow; rw [h]; simp [h']

theorem boolElem : (Tryz.prog.info? 4).map (fun i => (i.zero, i.size, i.bytes)) = some (some (.bool false), 1, 1) := by kernel_rfl

set_option maxHeartbeats 2000000 in
theorem vowels_any (s : ByteArray) (w : World) (hs : s.size ≤ 281474976710656) :
    Calls Tryz.prog 248 #[.string s] w fun e w' => ∃ A c, e = .returned (.slice A s.size c) ∧ Slc w' w'.heap.size A (vowCells s) ∧ Below w.heap.size w w' := by
  obtain ⟨i0, hi, hz0, hz1, hz2⟩ := info_parts boolElem
  go_enter Tryz.func248, Tryz.ntmps248
  go_wp2_with (at_make; refine wpList_make_full _ rfl _ _ 206 rfl w.heap.size 4 i0 _ 1 Tryz.underlying206 hi hz0 hz1 .i64 .i64 _ _ s.size rfl rfl rfl rfl (by rw [hz2]; omega) (by unfold maxLen; omega) (Nat.le_refl _) ?_)
  intro w1 hown1 hg1
  have hown : w1.ownsRow w.heap.size 4 1 (.slice (some ⟨w.heap.size, 0, none⟩) s.size s.size) s.size (vmid s 0) := by
    rw [vmid_zero, ← toList_madeCells_one]; simpa [Value.cells] using hown1
  have hbel1 : Below w.heap.size w w1 := (Below.refl _ _).grown hg1 (Nat.le_refl _) (by simp)
  clear hown1 hg1
  go_wp2
  go_loopw [10] (fun i wr => ∃ k : Nat, k ≤ s.size ∧ i = .int .i64 k ∧ wr.ownsRow w.heap.size 4 1 (.slice (some ⟨w.heap.size, 0, none⟩) s.size s.size) s.size (vmid s k) ∧ Below w.heap.size w wr) (fun i _ => s.size - (intOf i).toNat)
  case atStart => exact ⟨0, Nat.zero_le _, rfl, hown, hbel1⟩
  case round =>
    clear hown hbel1
    obtain ⟨k, hk, rfl, hown, hbel⟩ := hrel
    by_cases hlt : k < s.size
    · have hb := get_bt s
      have hf := hown.frozenAt k
      have hc : wr.cell? ⟨w.heap.size, k, none⟩ = some (.bool false) := by rw [hown.cellAt k (by omega), vmid_at s k k hlt]; simp
      have hst := fun u => (hown.stored k (.bool u)).1
      have HST := Lib.hid hst
      clear hst
      have hbs := fun u => hbel.setCell (p := ⟨w.heap.size, k, none⟩) (Nat.le_refl _) u
      have HBS := Lib.hid hbs
      clear hbs
      rcases hav : av (bt s k) with _ | _
      · have hn : bt s k ≠ 97 ∧ bt s k ≠ 101 ∧ bt s k ≠ 105 ∧ bt s k ≠ 111 ∧ bt s k ≠ 117 := by unfold av at hav; simpa [and_assoc] using hav
        obtain ⟨n1, n2, n3, n4, n5⟩ := hn
        by_cases hy : bt s k = 121
        · have HY := Lib.hid hy
          by_cases h0 : k = 0
          · subst h0
            clear hy
            have hy' : (bt s 0 == 121) = true := by simpa using HY.out
            have hav' := hav
            go_wp2
            go_roundw
            case rel => exact ⟨0 + 1, by omega, by go_num, by rw [← vmid_set s 0 (u := false) (vow_y0 HY.out).symm]; exact HST.out _, HBS.out _⟩
            case measure => simp [intOf]; omega
          · have hy' : (bt s k == 121) = true := by simpa using hy
            have hk0 : 0 < k := by omega
            clear hy
            have hp : wr.cell? ⟨w.heap.size, k - 1, none⟩ = some (.bool (vow s (k - 1))) := by
              rw [hown.cellAt (k - 1) (by omega), vmid_at s k (k - 1) (by omega)]
              have : k - 1 < k := by omega
              simp [this]
            go_wp2
            go_roundw
            case rel => exact ⟨k + 1, by omega, by go_num, by rw [← vmid_set s k (u := !vow s (k - 1)) (vow_y HY.out (by omega)).symm]; exact HST.out _, HBS.out _⟩
            case measure => simp [intOf]; omega
        · have hn6 : (bt s k == 121) = false := by simpa using hy
          go_wp2
          go_roundw
          case rel => exact ⟨k + 1, by omega, by go_num, by rw [← vmid_same s k (vow_no hav hy)]; exact hown, hbel⟩
          case measure => simp [intOf]; omega
      · have hv := vow_av hav
        have HV := Lib.hid hv
        have hn : bt s k = 97 ∨ bt s k = 101 ∨ bt s k = 105 ∨ bt s k = 111 ∨ bt s k = 117 := by unfold av at hav; simpa [or_assoc] using hav
        clear hv hav
        go_wp2
        all_goals (try (exfalso; omega))
        all_goals
          go_roundw
          case rel => exact ⟨k + 1, by omega, by go_num, by rw [← vmid_set s k (u := true) HV.out.symm]; exact HST.out _, HBS.out _⟩
          case measure => simp [intOf]; omega
    · obtain rfl : k = s.size := by omega
      go_wp2
      go_ret
      rw [vmid_all] at hown
      exact ⟨_, _, rfl, slc_own hown, hbel⟩

theorem meas_step {s : ByteArray} {k : Nat} (hk : 1 ≤ k) : msTo s k = msTo s (k - 1) + (if vow s (k - 1) && !vow s k then 1 else 0) := by
  obtain ⟨j, rfl⟩ : ∃ j, k = j + 1 := ⟨k - 1, by omega⟩
  rfl

set_option maxHeartbeats 2000000 in
theorem measure_any (s : ByteArray) (w : World) (hs : s.size ≤ 281474976710656) :
    Calls Tryz.prog 240 #[.string s] w fun e w' => e = .returned (.int .i64 (meas s)) ∧ Below w.heap.size w w' := by
  go_enter Tryz.func240, Tryz.ntmps240
  go_wp2_with (go_at_call 248; refine (vowels_any _ _ hs).mono ?_; rintro e w1 ⟨A, c, rfl, hA, hb1⟩)
  go_loopw [3, 5] (fun n i wr => ∃ k : Nat, 1 ≤ k ∧ (k ≤ s.size ∨ k = 1) ∧ i = .int .i64 k ∧ n = .int .i64 (msTo s (k - 1)) ∧ Below w1.heap.size w1 wr) (fun _ i _ => s.size - (intOf i).toNat)
  case atStart => exact ⟨1, by omega, .inr rfl, rfl, rfl, Below.refl _ _⟩
  case round =>
    obtain ⟨k, hk, hk2, rfl, rfl, hbel⟩ := hrel
    by_cases hlt : k < s.size
    · obtain ⟨g, o, rfl, hg, hc⟩ := (hA.below hbel (Nat.le_refl _)).at_ (by omega)
      have c1 := hc (k - 1) (by omega)
      have c2 := hc k hlt
      have hm := msTo_le s (k - 1)
      have HM := Lib.hid (meas_step (s := s) hk)
      clear hc hA
      have e0 : o + k - 1 = o + (k - 1) := by omega
      rcases v1 : vow s (k - 1) with _ | _ <;> rcases v2 : vow s k with _ | _ <;> rw [v1] at c1 <;> rw [v2] at c2 <;> have H1 := Lib.hid v1 <;> have H2 := Lib.hid v2 <;> clear v1 v2
      all_goals
        go_wp2
        go_roundw
        case rel => exact ⟨k + 1, by omega, .inl (by omega), by go_num, by rw [show k + 1 - 1 = k by omega, HM.out, H1.out, H2.out]; first | rfl | go_num, hbel⟩
        case measure => simp [intOf]; omega
    · go_wp2
      go_ret
      refine ⟨?_, hb1.trans (hbel.mono hb1.size)⟩
      have e : s.size - 1 = k - 1 := by omega
      unfold meas
      rw [e]
      rfl

theorem hasTo_true {s : ByteArray} : ∀ {n k : Nat}, k < n → vow s k = true → hasTo s n = true := by
  intro n
  induction n with
  | zero => intro k h; omega
  | succ n ih =>
    intro k h hv
    unfold hasTo
    by_cases e : k = n
    · subst e; rw [hv]; simp
    · rw [ih (by omega) hv]; rfl

set_option maxHeartbeats 2000000 in
theorem hasVowel_any (s : ByteArray) (w : World) (hs : s.size ≤ 281474976710656) :
    Calls Tryz.prog 244 #[.string s] w fun e w' => e = .returned (.bool (hasV s)) ∧ Below w.heap.size w w' := by
  go_enter Tryz.func244, Tryz.ntmps244
  go_wp2_with (go_at_call 248; refine (vowels_any _ _ hs).mono ?_; rintro e w1 ⟨A, c, rfl, hA, hb1⟩)
  go_loopw [8] (fun i wr => ∃ k : Nat, k ≤ s.size ∧ i = .int .i64 k ∧ hasTo s k = false ∧ Below w1.heap.size w1 wr) (fun i _ => s.size - (intOf i).toNat)
  case atStart => exact ⟨0, by omega, rfl, rfl, Below.refl _ _⟩
  case round =>
    obtain ⟨k, hk, rfl, hno, hbel⟩ := hrel
    have HNO := Lib.hid hno
    clear hno
    by_cases hlt : k < s.size
    · obtain ⟨g, o, rfl, hg, hc⟩ := (hA.below hbel (Nat.le_refl _)).at_ (by omega)
      have c2 := hc k hlt
      clear hc hA
      rcases v2 : vow s k with _ | _ <;> rw [v2] at c2 <;> have H2 := Lib.hid v2 <;> clear v2
      · go_wp2
        go_roundw
        case rel => exact ⟨k + 1, by omega, by go_num, by unfold hasTo; rw [HNO.out, H2.out]; rfl, hbel⟩
        case measure => simp [intOf]; omega
      · go_wp2
        go_ret
        exact ⟨by rw [show hasV s = true from hasTo_true hlt H2.out]; rfl, hb1.trans (hbel.mono hb1.size)⟩
    · obtain rfl : k = s.size := by omega
      go_wp2
      go_ret
      exact ⟨by rw [show hasV s = false from HNO.out]; rfl, hb1.trans (hbel.mono hb1.size)⟩
end Go.Proofs.YtkcfgcdlnojaeaaGreatDoor.Vowels

namespace Go.Proofs.YtkcfgcdlnojaeaaGreatDoor.StemWalk
set_option maxRecDepth 100000
open Go.RowKit Go.PlainAid StemPlain Base Vowels

theorem ret_bool {a b : Bool} (h : a = b) : Ending.returned (.bool a) = .returned (.bool b) := by rw [h]
theorem ret_str {a b : ByteArray} (h : a = b) : Ending.returned (.string a) = .returned (.string b) := by rw [h]

theorem sfx_short {s e : ByteArray} (h : ¬ e.size ≤ s.size) : sfx s e = false := by unfold sfx; simp [h]
theorem sfx_long {s e : ByteArray} (h : e.size ≤ s.size) : ((s.extract (s.size - e.size) s.size).toList == e.toList) = sfx s e := by
  unfold sfx; rw [decide_eq_true h, Bool.true_and, ByteArray.toList_eq, ByteArray.toList_eq]

set_option maxHeartbeats 1000000 in
theorem hasSuffix_any (s e : ByteArray) (w : World) (hs : s.size ≤ 281474976710656) (he : e.size ≤ 281474976710656) :
    Calls Tryz.prog 230 #[.string s, .string e] w fun r w' => r = .returned (.bool (sfx s e)) ∧ w' = w := by
  by_cases h : e.size ≤ s.size
  · have HL := Lib.hid (sfx_long h)
    go_enter Tryz.func230, Tryz.ntmps230
    go_wp2
    go_ret
    exact ⟨ret_bool HL.out, rfl⟩
  · have hs := Lib.hid (sfx_short h)
    go_enter Tryz.func230, Tryz.ntmps230
    go_wp2
    go_ret
    exact ⟨ret_bool hs.out.symm, rfl⟩

set_option maxHeartbeats 1000000 in
theorem sl_indexByte (s : ByteArray) (x : Int) (w : World) :
    Calls Tryz.prog 249 #[.string s, .int .u8 x] w fun r w' => r = .returned (.int .i64 (Lib.indexByte s.data.toList x.toNat.toUInt8)) ∧ w' = w := by
  go_enter Tryz.func249, Tryz.ntmps249
  go_wp2
  rw [run_callFunc_extern Tryz.func250 (by kernel_rfl) (by kernel_rfl) (by kernel_rfl) (e := Extern.BytealgIndexByte.indexByte) (by kernel_rfl), Lib.run_indexByteString]
  simp only [Result.andThen]
  rw [Oper.upon_value]
  go_wp2
  go_ret
  exact ⟨rfl, rfl⟩

theorem indexByte_any (s : ByteArray) (x : Int) (w : World) :
    Calls Tryz.prog 246 #[.string s, .int .u8 x] w fun r w' => r = .returned (.int .i64 (Lib.indexByte s.data.toList x.toNat.toUInt8)) ∧ w' = w := by
  go_enter Tryz.func246, Tryz.ntmps246
  go_wp2_with (go_at_call 249; refine (sl_indexByte _ _ _).mono ?_; rintro e w' ⟨rfl, rfl⟩)
  go_ret
  exact ⟨rfl, rfl⟩

theorem ib3_all (a b c : UInt8) (x : UInt8) : 0 ≤ Lib.indexByte [a, b, c] x ↔ (a = x ∨ b = x ∨ c = x) := by
  unfold Lib.indexByte Lib.indexByte Lib.indexByte Lib.indexByte
  by_cases h1 : a = x <;> by_cases h2 : b = x <;> by_cases h3 : c = x <;> simp [h1, h2, h3]

theorem u8_of (x : Int) (h0 : 0 ≤ x) (h1 : x ≤ 255) (n : Nat) (hn : n < 256) : n.toUInt8 = x.toNat.toUInt8 ↔ x = n := by
  rw [← UInt8.toNat_inj]
  simp
  omega

theorem ib_wxy (x : Int) (h0 : 0 ≤ x) (h1 : x ≤ 255) : decide (0 ≤ Lib.indexByte [119, 120, 121] x.toNat.toUInt8) = wxy x := by
  rw [Bool.eq_iff_iff, decide_eq_true_iff, ib3_all]
  have e1 := u8_of x h0 h1 119 (by decide)
  have e2 := u8_of x h0 h1 120 (by decide)
  have e3 := u8_of x h0 h1 121 (by decide)
  have : wxy x = true ↔ (x = 119 ∨ x = 120 ∨ x = 121) := by unfold wxy; simp [or_assoc]
  rw [this]
  exact or_congr e1 (or_congr e2 e3)

theorem ib_lsz (x : Int) (h0 : 0 ≤ x) (h1 : x ≤ 255) : decide (Lib.indexByte [108, 115, 122] x.toNat.toUInt8 < 0) = !lsz x := by
  rw [← decide_eq_decide.2 (Int.not_le), decide_not]
  congr 1
  rw [Bool.eq_iff_iff, decide_eq_true_iff, ib3_all]
  have e1 := u8_of x h0 h1 108 (by decide)
  have e2 := u8_of x h0 h1 115 (by decide)
  have e3 := u8_of x h0 h1 122 (by decide)
  have : lsz x = true ↔ (x = 108 ∨ x = 115 ∨ x = 122) := by unfold lsz; simp [or_assoc]
  rw [this]
  exact or_congr e1 (or_congr e2 e3)

end Go.Proofs.YtkcfgcdlnojaeaaGreatDoor.StemWalk

namespace Go.Proofs.YtkcfgcdlnojaeaaGreatDoor.StemWalk2
set_option maxRecDepth 100000
open Go.RowKit Go.PlainAid StemPlain Base Vowels StemWalk

theorem wxy_yes (x : Int) (w : World) (h0 : 0 ≤ x) (h1 : x ≤ 255) (h : wxy x = true) :
    Calls Tryz.prog 246 #[.string ⟨#[119, 120, 121]⟩, .int .u8 x] w fun r w' => (∃ i : Int, r = .returned (.int .i64 i) ∧ 0 ≤ i) ∧ w' = w :=
  (indexByte_any _ x w).mono fun _ _ ⟨he, hw⟩ => ⟨⟨_, he, by have := ib_wxy x h0 h1; rw [h] at this; simpa using this⟩, hw⟩
theorem wxy_no (x : Int) (w : World) (h0 : 0 ≤ x) (h1 : x ≤ 255) (h : wxy x = false) :
    Calls Tryz.prog 246 #[.string ⟨#[119, 120, 121]⟩, .int .u8 x] w fun r w' => (∃ i : Int, r = .returned (.int .i64 i) ∧ i < 0) ∧ w' = w :=
  (indexByte_any _ x w).mono fun _ _ ⟨he, hw⟩ => ⟨⟨_, he, by have := ib_wxy x h0 h1; rw [h] at this; simpa using this⟩, hw⟩
theorem lsz_yes (x : Int) (w : World) (h0 : 0 ≤ x) (h1 : x ≤ 255) (h : lsz x = true) :
    Calls Tryz.prog 246 #[.string ⟨#[108, 115, 122]⟩, .int .u8 x] w fun r w' => (∃ i : Int, r = .returned (.int .i64 i) ∧ 0 ≤ i) ∧ w' = w :=
  (indexByte_any _ x w).mono fun _ _ ⟨he, hw⟩ => ⟨⟨_, he, by have := ib_lsz x h0 h1; rw [h] at this; simpa using this⟩, hw⟩
theorem lsz_no (x : Int) (w : World) (h0 : 0 ≤ x) (h1 : x ≤ 255) (h : lsz x = false) :
    Calls Tryz.prog 246 #[.string ⟨#[108, 115, 122]⟩, .int .u8 x] w fun r w' => (∃ i : Int, r = .returned (.int .i64 i) ∧ i < 0) ∧ w' = w :=
  (indexByte_any _ x w).mono fun _ _ ⟨he, hw⟩ => ⟨⟨_, he, by have := ib_lsz x h0 h1; rw [h] at this; simpa using this⟩, hw⟩

theorem shrt_small {s : ByteArray} (h : ¬ 3 ≤ s.size) : shrt s = false := by unfold shrt; simp [h]
theorem shrt_wxy {s : ByteArray} (h : wxy (bt s (s.size - 1)) = true) : shrt s = false := by unfold shrt; simp [h]
theorem shrt_else {s : ByteArray} (h : 3 ≤ s.size) (h' : wxy (bt s (s.size - 1)) = false) : shrt s = (!vow s (s.size - 3) && vow s (s.size - 2) && !vow s (s.size - 1)) := by unfold shrt; simp [h, h']

set_option maxHeartbeats 1000000 in
theorem endsShort_any (s : ByteArray) (w : World) (hs : s.size ≤ 281474976710656) :
    Calls Tryz.prog 241 #[.string s] w fun r w' => r = .returned (.bool (shrt s)) ∧ Below w.heap.size w w' := by
  have hb := get_bt s
  by_cases h3 : 3 ≤ s.size
  · have r0 := bt_nonneg s (s.size - 1)
    have r1 := bt_le s (s.size - 1)
    rcases hx : wxy (bt s (s.size - 1)) with _ | _
    · have d3 : decide ((s.size : Int) < 3) = false := by simp; omega
      have HS := Lib.hid (shrt_else h3 hx)
      have HX := Lib.hid hx
      clear hx
      go_enter Tryz.func241, Tryz.ntmps241
      go_wp2_with (first
        | (go_at_call 246; refine (wxy_no _ _ r0 r1 HX.out).mono ?_; rintro e w' ⟨⟨i, rfl, hi⟩, rfl⟩)
        | (go_at_call 248; refine (vowels_any _ _ hs).mono ?_; rintro e w1 ⟨A, c, rfl, hA, hb1⟩; obtain ⟨g, o, rfl, hg, hc⟩ := hA.at_ (by omega); have c1 := hc (s.size - 1) (by omega); have c2 := hc (s.size - 2) (by omega); have c3 := hc (s.size - 3) (by omega); clear hc hA))
      all_goals
        go_ret
        refine ⟨ret_bool ?_, hb1⟩
        rw [HS.out]
        simp [*]
    · have d3 : decide ((s.size : Int) < 3) = false := by simp; omega
      have HS := Lib.hid (shrt_wxy hx)
      have HX := Lib.hid hx
      clear hx
      go_enter Tryz.func241, Tryz.ntmps241
      go_wp2_with (go_at_call 246; refine (wxy_yes _ _ r0 r1 HX.out).mono ?_; rintro e w' ⟨⟨i, rfl, hi⟩, rfl⟩)
      go_ret
      exact ⟨ret_bool HS.out.symm, Below.refl _ _⟩
  · have d3 : decide ((s.size : Int) < 3) = true := by simp; omega
    have HS := Lib.hid (shrt_small h3)
    go_enter Tryz.func241, Tryz.ntmps241
    go_wp2
    go_ret
    exact ⟨ret_bool HS.out.symm, Below.refl _ _⟩

theorem hasSuffix_val {s e : ByteArray} {b : Bool} (h : sfx s e = b) (w : World) (hs : s.size ≤ 281474976710656) (he : e.size ≤ 281474976710656) :
    Calls Tryz.prog 230 #[.string s, .string e] w fun r w' => r = .returned (.bool b) ∧ w' = w := by
  subst h; exact hasSuffix_any s e w hs he

def pairCells : List (ByteArray × ByteArray) → List Value
  | [] => []
  | p :: r => .string p.1 :: .string p.2 :: pairCells r

theorem pairCells_at : ∀ (L : List (ByteArray × ByteArray)) (k : Nat) (p : ByteArray × ByteArray), L[k]? = some p → (pairCells L)[2 * k]? = some (.string p.1) ∧ (pairCells L)[2 * k + 1]? = some (.string p.2)
  | [], k, p, h => by simp at h
  | q :: r, 0, p, h => by simp at h; subst h; exact ⟨rfl, rfl⟩
  | q :: r, k + 1, p, h => by
    simp at h
    have := pairCells_at r k p h
    exact ⟨by show (_ :: _ :: pairCells r)[2 * k + 1 + 1]? = _; simpa using this.1, by show (_ :: _ :: pairCells r)[2 * k + 1 + 1 + 1]? = _; simpa using this.2⟩

theorem pairCells_ne {L : List (ByteArray × ByteArray)} (h : 0 < L.length) : pairCells L ≠ [] := by
  cases L with
  | nil => simp at h
  | cons p r => simp [pairCells]

def atv : Option Nat → Int
  | none => -1
  | some j => 2 * (j : Int)

set_option maxHeartbeats 2000000 in
theorem longest_any (s : ByteArray) (L : List (ByteArray × ByteArray)) (A : Option Addr) (c B : Nat) (w : World) (hs : s.size ≤ 281474976710656) (hL : L.length ≤ 1000) (hLs : ∀ p ∈ L, p.1.size ≤ 1000) (hB : B ≤ w.heap.size) (hA : Slc w B A (pairCells L)) :
    Calls Tryz.prog 242 #[.string s, .slice A (2 * L.length) c] w fun r w' =>
      r = .returned (.tuple #[.string (lrest s L), .int .i64 (atv (bst s L L.length))]) ∧ Below w.heap.size w w' := by
  go_enter Tryz.func242, Tryz.ntmps242
  go_wp2
  go_loopw [6, 7] (fun t i wr => ∃ k : Nat, k ≤ L.length ∧ i = .int .i64 (2 * (k : Int)) ∧ t = .int .i64 (atv (bst s L k)) ∧ Below w.heap.size w wr) (fun _ i _ => 2 * L.length - (intOf i).toNat)
  case atStart => exact ⟨0, Nat.zero_le _, rfl, rfl, Below.refl _ _⟩
  case round =>
    obtain ⟨k, hk, rfl, rfl, hbel⟩ := hrel
    by_cases hlt : k < L.length
    · obtain ⟨g, o, rfl, hg, hc⟩ := (hA.below hbel hB) (pairCells_ne (by omega))
      obtain ⟨p, hp⟩ : ∃ p, L[k]? = some p := ⟨_, List.getElem?_eq_getElem hlt⟩
      have hps := hLs p (List.mem_of_getElem? hp)
      have c0 := hc (2 * k) _ (pairCells_at L k p hp).1
      have b1 : (0 : Int) ≤ 2 * (k : Int) := by omega
      have b2 : (2 : Int) * (k : Int) < ((2 * L.length : Nat) : Int) := by omega
      have b3 : (2 : Int) * (k : Int) < 2 * (L.length : Int) := by omega
      have b4 : ((2 : Int) * (k : Int)).toNat = 2 * k := by omega
      have hp1 : (p.1.size : Int) ≤ 1000 := by omega
      have keep : ∀ n, Below w.heap.size w (wr.drewN n) := fun n => hbel.trans ⟨rfl, rfl, rfl, Nat.le_refl _, fun _ _ => rfl⟩
      have KEEP := Lib.hid keep
      clear keep
      rcases hsx : sfx s p.1 with _ | _
      · have HN := Lib.hid (bst_no hp hsx)
        have HX := Lib.hid hsx
        clear hc hA hsx
        go_wp2_with fail
        go_big_quiet ((go_at_call 230; exact Calls.quiet_of_same (hasSuffix_val HX.out _ hs (by omega))))
        go_wp2
        go_roundw
        case rel => exact ⟨k + 1, by omega, by go_num, by rw [HN.out], KEEP.out _⟩
        case measure => simp [intOf]; omega
      · rcases hbs : bst s L k with _ | j
        · have HN := Lib.hid (bst_new hp hsx hbs)
          have HX := Lib.hid hsx
          clear hc hA hsx hbs
          simp only [atv]
          go_wp2_with fail
          go_big_quiet ((go_at_call 230; exact Calls.quiet_of_same (hasSuffix_val HX.out _ hs (by omega))))
          go_wp2
          go_roundw
          case rel => exact ⟨k + 1, by omega, by go_num, by rw [HN.out], KEEP.out _⟩
          case measure => simp [intOf]; omega
        · obtain ⟨hjk, q, hq, hsq⟩ := bst_lt s L k j hbs
          have hqs := hLs q (List.mem_of_getElem? hq)
          have c1 := hc (2 * j) _ (pairCells_at L j q hq).1
          have e1 : (0 : Int) ≤ 2 * (j : Int) := by omega
          have e2 : (2 : Int) * (j : Int) < ((2 * L.length : Nat) : Int) := by omega
          have e3 : (2 : Int) * (j : Int) < 2 * (L.length : Int) := by omega
          have e4 : ((2 : Int) * (j : Int)).toNat = 2 * j := by omega
          have d1 : decide ((2 : Int) * (j : Int) < 0) = false := by simp; omega
          by_cases hsz : q.1.size < p.1.size
          · have HN := Lib.hid (bst_up hp hsx hbs hq hsz)
            have HX := Lib.hid hsx
            have d2 : decide ((q.1.size : Int) < (p.1.size : Int)) = true := by simp; omega
            clear hc hA hsx hbs hsq
            simp only [atv]
            go_wp2_with fail
            go_big_quiet ((go_at_call 230; exact Calls.quiet_of_same (hasSuffix_val HX.out _ hs (by omega))))
            go_wp2
            go_roundw
            case rel => exact ⟨k + 1, by omega, by go_num, by rw [HN.out], KEEP.out _⟩
            case measure => simp [intOf]; omega
          · have HN := Lib.hid (bst_stay hp hsx hbs hq hsz)
            have HX := Lib.hid hsx
            have d2 : decide ((q.1.size : Int) < (p.1.size : Int)) = false := by simp; omega
            clear hc hA hsx hbs hsq
            simp only [atv]
            go_wp2_with fail
            go_big_quiet ((go_at_call 230; exact Calls.quiet_of_same (hasSuffix_val HX.out _ hs (by omega))))
            go_wp2
            go_roundw
            case rel => exact ⟨k + 1, by omega, by go_num, by rw [HN.out], KEEP.out _⟩
            case measure => simp [intOf]; omega
    · obtain rfl : k = L.length := by omega
      rcases hbs : bst s L L.length with _ | j
      · have HN := Lib.hid (lrest_none hbs)
        have HB := Lib.hid hbs
        clear hbs
        simp only [atv]
        go_wp2
        go_ret2
        refine ⟨?_, hbel⟩
        rw [HN.out, HB.out]
        rfl
      · obtain ⟨hjk, q, hq, hsq⟩ := bst_lt s L L.length j hbs
        have hle := sfx_le hsq
        have HN := Lib.hid (lrest_some hbs hq)
        have HB := Lib.hid hbs
        obtain ⟨g, o, rfl, hg, hc⟩ := (hA.below hbel hB) (pairCells_ne (by omega))
        have c1 := hc (2 * j) _ (pairCells_at L j q hq).1
        have e2 : (2 : Int) * (j : Int) < ((2 * L.length : Nat) : Int) := by omega
        have e4 : ((2 : Int) * (j : Int)).toNat = 2 * j := by omega
        clear hbs hc hA hsq
        simp only [atv]
        go_wp2
        go_ret2
        refine ⟨?_, hbel⟩
        rw [HN.out, HB.out]
        rfl
end Go.Proofs.YtkcfgcdlnojaeaaGreatDoor.StemWalk2

namespace Go.Proofs.YtkcfgcdlnojaeaaGreatDoor.StemWalk3
set_option maxRecDepth 100000
open Go.RowKit Go.PlainAid StemPlain Base Vowels StemWalk StemWalk2

theorem meas_lt (s : ByteArray) : meas s ≤ s.size := by unfold meas; have := msTo_le s (s.size - 1); omega

set_option maxHeartbeats 2000000 in
theorem replace_any (s : ByteArray) (L : PL) (A : Option Addr) (c B m : Nat) (w : World) (hs : s.size ≤ 281474976710656) (hL : L.length ≤ 1000) (hLs : ∀ p ∈ L, p.1.size ≤ 1000 ∧ p.2.size ≤ 1000) (hm : m ≤ 1000) (hB : B ≤ w.heap.size) (hA : Slc w B A (pairCells L)) :
    Calls Tryz.prog 243 #[.string s, .slice A (2 * L.length) c, .int .i64 (m : Int)] w fun r w' => r = .returned (.string (rep s L m)) ∧ Below w.heap.size w w' := by
  have hL1 : ∀ p ∈ L, p.1.size ≤ 1000 := fun p hp => (hLs p hp).1
  rcases hbs : bst s L L.length with _ | j
  · have HN := Lib.hid (rep_none (m := m) hbs)
    have HL := Lib.hid (lrest_none hbs)
    have HB := Lib.hid hbs
    clear hbs
    go_enter Tryz.func243, Tryz.ntmps243
    go_wp2_with (go_at_call 242; refine (longest_any _ L _ _ B _ hs hL hL1 hB hA).mono ?_; rw [HL.out, HB.out]; simp only [atv]; rintro e w1 ⟨rfl, hb1⟩)
    go_ret
    exact ⟨ret_str HN.out.symm, hb1⟩
  · obtain ⟨hjk, q, hq, hsq⟩ := bst_lt s L L.length j hbs
    have hqs := hLs q (List.mem_of_getElem? hq)
    have HL := Lib.hid (lrest_some hbs hq)
    have HB := Lib.hid hbs
    have hle := sfx_le hsq
    have hcs : (cut s q.1).size ≤ 281474976710656 := by rw [cut_size]; omega
    have hms := meas_lt (cut s q.1)
    have d1 : decide ((2 : Int) * (j : Int) < 0) = false := by simp; omega
    obtain ⟨g, o, rfl, hg, hc⟩ := hA (pairCells_ne (by omega))
    by_cases hlow : meas (cut s q.1) ≤ m
    · have HN := Lib.hid (rep_low hbs hq hlow)
      have hlow' : ((meas (cut s q.1) : Nat) : Int) ≤ (m : Int) := by omega
      clear hbs hc hsq
      go_enter Tryz.func243, Tryz.ntmps243
      go_wp2_with (first
        | (go_at_call 242; refine (longest_any _ L _ _ B _ hs hL hL1 hB hA).mono ?_; rw [HL.out, HB.out]; simp only [atv]; rintro e w1 ⟨rfl, hb1⟩)
        | (go_at_call 240; refine (measure_any _ _ hcs).mono ?_; rintro e w2 ⟨rfl, hb2⟩))
      go_ret
      exact ⟨ret_str HN.out.symm, hb1.trans (hb2.mono hb1.size)⟩
    · have HN := Lib.hid (rep_high hbs hq hlow)
      have c1 := hc (2 * j + 1) _ (pairCells_at L j q hq).2
      have hlow' : (m : Int) < ((meas (cut s q.1) : Nat) : Int) := by omega
      have e2 : (2 : Int) * (j : Int) + 1 < ((2 * L.length : Nat) : Int) := by omega
      clear hbs hc hsq
      go_enter Tryz.func243, Tryz.ntmps243
      go_wp2_with (first
        | (go_at_call 242; refine (longest_any _ L _ _ B _ hs hL hL1 hB hA).mono ?_; rw [HL.out, HB.out]; simp only [atv]; rintro e w1 ⟨rfl, hb1⟩)
        | (go_at_call 240; refine (measure_any _ _ hcs).mono ?_; rintro e w2 ⟨rfl, hb2⟩; have c2 := ((hb1.trans (hb2.mono hb1.size)).cell (p := ⟨g, o + (2 * j + 1), none⟩) (show g < w.heap.size by omega)).trans c1))
      go_ret
      exact ⟨ret_str HN.out.symm, hb1.trans (hb2.mono hb1.size)⟩

theorem sl_hasSuffix {s e : ByteArray} {b : Bool} (hb : sfx s e = b) (w : World) (hs : s.size ≤ 281474976710656) (he : e.size ≤ 281474976710656) :
    Calls Tryz.prog 238 #[.string s, .string e] w fun r w' => r = .returned (.bool b) ∧ w' = w := by
  subst hb
  by_cases h : e.size ≤ s.size
  · have HL := Lib.hid (sfx_long h)
    go_enter Tryz.func238, Tryz.ntmps238
    go_wp2
    go_ret
    exact ⟨ret_bool HL.out, rfl⟩
  · have hs := Lib.hid (sfx_short h)
    go_enter Tryz.func238, Tryz.ntmps238
    go_wp2
    go_ret
    exact ⟨ret_bool hs.out.symm, rfl⟩

set_option maxHeartbeats 1000000 in
theorem cutSuffix_yes (s e : ByteArray) (w : World) (hs : s.size ≤ 281474976710656) (h : sfx s e = true) :
    Calls Tryz.prog 239 #[.string s, .string e] w fun r w' => r = .returned (.tuple #[.string (cut s e), .bool true]) ∧ w' = w := by
  have hle := sfx_le h
  have HX := Lib.hid h
  clear h
  go_enter Tryz.func239, Tryz.ntmps239
  go_wp2_with (first
    | (go_at_call 238; refine (sl_hasSuffix HX.out _ hs (by omega)).mono ?_; rintro e w' ⟨rfl, rfl⟩)
    | (go_at_call 247; go_in))
  go_ret2
  exact ⟨rfl, rfl⟩

set_option maxHeartbeats 1000000 in
theorem cutSuffix_no (s e : ByteArray) (w : World) (hs : s.size ≤ 281474976710656) (he : e.size ≤ 281474976710656) (h : sfx s e = false) :
    Calls Tryz.prog 239 #[.string s, .string e] w fun r w' => r = .returned (.tuple #[.string s, .bool false]) ∧ w' = w := by
  have HX := Lib.hid h
  clear h
  go_enter Tryz.func239, Tryz.ntmps239
  go_wp2_with (first
    | (go_at_call 238; refine (sl_hasSuffix HX.out _ hs he).mono ?_; rintro e w' ⟨rfl, rfl⟩)
    | (go_at_call 247; go_in))
  go_ret2
  exact ⟨rfl, rfl⟩

set_option maxHeartbeats 1000000 in
theorem step1a_any (s : ByteArray) (w : World) (hs : s.size ≤ 281474976710656) :
    Calls Tryz.prog 237 #[.string s] w fun r w' => r = .returned (.string (s1a s)) ∧ Below w.heap.size w w' := by
  have hB : w.heap.size + 1 ≤ w.heap.size + 1 := Nat.le_refl _
  rcases hbs : bst s L1a L1a.length with _ | j
  · have HN := Lib.hid (sub_none hbs)
    have HL := Lib.hid (lrest_none hbs)
    have HB := Lib.hid hbs
    clear hbs
    go_enter Tryz.func237, Tryz.ntmps237
    go_wp2_with (go_at_call 242; refine (longest_any s L1a _ _ (w.heap.size + 1) _ hs (by decide) (by decide) (by simp) (slc_new w _ _)).mono ?_; rw [HL.out, HB.out]; simp only [atv]; rintro e w1 ⟨rfl, hb1⟩)
    go_ret
    exact ⟨ret_str HN.out.symm, ((Below.refl _ _).alloc (Nat.le_refl _) _).trans (hb1.mono (by simp))⟩
  · obtain ⟨hjk, q, hq, hsq⟩ := bst_lt s L1a L1a.length j hbs
    have HN := Lib.hid (sub_some hbs hq)
    have HL := Lib.hid (lrest_some hbs hq)
    have HB := Lib.hid hbs
    have hle := sfx_le hsq
    have hcs : (cut s q.1).size ≤ 281474976710656 := by rw [cut_size]; omega
    clear hbs hsq
    have hj4 : j < 4 := hjk
    obtain rfl | rfl | rfl | rfl : j = 0 ∨ j = 1 ∨ j = 2 ∨ j = 3 := by omega
    all_goals
      simp only [L1a, List.getElem?_cons_zero, List.getElem?_cons_succ, Option.some.injEq] at hq
      subst hq
      go_enter Tryz.func237, Tryz.ntmps237
      go_wp2_with (go_at_call 242; refine (longest_any s L1a _ _ (w.heap.size + 1) _ hs (by decide) (by decide) (by simp) (slc_new w _ _)).mono ?_; rw [HL.out, HB.out]; simp only [atv]; rintro e w1 ⟨rfl, hb1⟩)
      go_ret
      exact ⟨ret_str HN.out.symm, (((Below.refl _ _).alloc (Nat.le_refl _) _).trans (hb1.mono (by simp))).alloc (by have := hb1.size; simp at this; omega) _⟩
end Go.Proofs.YtkcfgcdlnojaeaaGreatDoor.StemWalk3

namespace Go.Proofs.YtkcfgcdlnojaeaaGreatDoor.StemWalk4
set_option maxRecDepth 100000
open Go.RowKit Go.PlainAid StemPlain Base Vowels StemWalk StemWalk2 StemWalk3

set_option maxHeartbeats 1000000 in
theorem step1c_any (s : ByteArray) (w : World) (hs : s.size ≤ 281474976710656) :
    Calls Tryz.prog 235 #[.string s] w fun r w' => r = .returned (.string (s1c s)) ∧ Below w.heap.size w w' := by
  rcases hx : sfx s ⟨#[121]⟩ with _ | _
  · have HX := Lib.hid hx
    have HN : Hid (s1c s = s) := Lib.hid (by unfold s1c; rw [hx]; rfl)
    clear hx
    go_enter Tryz.func235, Tryz.ntmps235
    go_wp2_with (go_at_call 239; refine (cutSuffix_no s _ _ hs (by decide) HX.out).mono ?_; rintro e w' ⟨rfl, rfl⟩)
    go_ret
    exact ⟨ret_str HN.out.symm, Below.refl _ _⟩
  · have HX := Lib.hid hx
    have hcs : (cut s ⟨#[121]⟩).size ≤ 281474976710656 := by rw [cut_size]; omega
    rcases hv : hasV (cut s ⟨#[121]⟩) with _ | _
    · have HV := Lib.hid hv
      have HN : Hid (s1c s = s) := Lib.hid (by unfold s1c; rw [hx, hv]; rfl)
      clear hx
      go_enter Tryz.func235, Tryz.ntmps235
      go_wp2_with (first
        | (go_at_call 239; refine (cutSuffix_yes s _ _ hs HX.out).mono ?_; rintro e w' ⟨rfl, rfl⟩)
        | (go_at_call 244; refine (hasVowel_any _ _ hcs).mono ?_; rw [HV.out]; rintro e w1 ⟨rfl, hb1⟩))
      go_ret
      exact ⟨ret_str HN.out.symm, hb1⟩
    · have HV := Lib.hid hv
      have HN : Hid (s1c s = cut s ⟨#[121]⟩ ++ ⟨#[105]⟩) := Lib.hid (by unfold s1c; rw [hx, hv]; rfl)
      clear hx
      go_enter Tryz.func235, Tryz.ntmps235
      go_wp2_with (first
        | (go_at_call 239; refine (cutSuffix_yes s _ _ hs HX.out).mono ?_; rintro e w' ⟨rfl, rfl⟩)
        | (go_at_call 244; refine (hasVowel_any _ _ hcs).mono ?_; rw [HV.out]; rintro e w1 ⟨rfl, hb1⟩))
      go_ret
      exact ⟨ret_str HN.out.symm, hb1⟩

set_option maxHeartbeats 1000000 in
theorem step2_any (s : ByteArray) (w : World) (hs : s.size ≤ 281474976710656) :
    Calls Tryz.prog 234 #[.string s] w fun r w' => r = .returned (.string (rep s L2 0)) ∧ Below w.heap.size w w' := by
  go_enter Tryz.func234, Tryz.ntmps234
  go_wp2_with (go_at_call 243; refine (replace_any s L2 _ _ (w.heap.size + 1) 0 _ hs (by decide) (by decide) (by decide) (by simp) (slc_new w _ _)).mono ?_; rintro e w1 ⟨rfl, hb1⟩)
  go_ret
  exact ⟨rfl, ((Below.refl _ _).alloc (Nat.le_refl _) _).trans (hb1.mono (by simp))⟩

set_option maxHeartbeats 1000000 in
theorem step3_any (s : ByteArray) (w : World) (hs : s.size ≤ 281474976710656) :
    Calls Tryz.prog 233 #[.string s] w fun r w' => r = .returned (.string (rep s L3 0)) ∧ Below w.heap.size w w' := by
  go_enter Tryz.func233, Tryz.ntmps233
  go_wp2_with (go_at_call 243; refine (replace_any s L3 _ _ (w.heap.size + 1) 0 _ hs (by decide) (by decide) (by decide) (by simp) (slc_new w _ _)).mono ?_; rintro e w1 ⟨rfl, hb1⟩)
  go_ret
  exact ⟨rfl, ((Below.refl _ _).alloc (Nat.le_refl _) _).trans (hb1.mono (by simp))⟩
end Go.Proofs.YtkcfgcdlnojaeaaGreatDoor.StemWalk4

namespace Go.Proofs.YtkcfgcdlnojaeaaGreatDoor.EndsDouble
set_option maxRecDepth 100000
open Go.RowKit Go.PlainAid StemPlain Base Vowels StemWalk

set_option maxHeartbeats 4000000 in
theorem endsDouble_any (s : ByteArray) (w : World) (hs : s.size ≤ 281474976710656) :
    Calls Tryz.prog 245 #[.string s] w fun r w' => r = .returned (.bool (dbl s)) ∧ Below w.heap.size w w' := by
  have hb := get_bt s
  by_cases h2 : 2 ≤ s.size
  · have d2 : decide ((2 : Int) ≤ (s.size : Int)) = true := by simp; omega
    by_cases he : bt s (s.size - 1) = bt s (s.size - 2)
    · have hd : dbl s = !vow s (s.size - 1) := by unfold dbl; simp [h2, he]
      have HD := Lib.hid hd
      have he' : (bt s (s.size - 1) == bt s (s.size - 2)) = true := by simpa using he
      clear hd he
      go_enter Tryz.func245, Tryz.ntmps245
      go_wp2_with fail
      have i1 : (0 : Int) ≤ (s.size : Int) - 1 := by omega
      have i2 : (s.size : Int) - 1 < (s.size : Int) := by omega
      have i3 : (0 : Int) ≤ (s.size : Int) - 2 := by omega
      have i4 : (s.size : Int) - 2 < (s.size : Int) := by omega
      have x1 : IntKind.i64.wrap ((s.size : Int) - 1) = (s.size : Int) - 1 := IntWalk.i64_in _ (by omega)
      have x2 : IntKind.i64.wrap ((s.size : Int) - 2) = (s.size : Int) - 2 := IntWalk.i64_in _ (by omega)
      have j1 : (1 : Int) ≤ (s.size : Int) := by omega
      have j2 : (2 : Int) ≤ (s.size : Int) := by omega
      have y1 : ((s.size : Int) - 1).toNat = s.size - 1 := by omega
      have y2 : ((s.size : Int) - 2).toNat = s.size - 2 := by omega
      refine wp_region_any (by kernel_rfl) ?_
      (refine wpAny_take (i := 0) (v := ?v0) (by rw [List.getElem?_toArray]; rfl) (by kernel_rfl) (by kernel_rfl) (by kernel_rfl) (by exact fun _ _ _ h => h) (Or.inl ⟨by rfl, ?y0⟩) ?r0)
      case y0 => (intro w'; go_simp; try with_reducible rfl)
      try simp only [Act.put, Base.s1, Base.s2, Base.s3]
      (refine wpAny_take (i := 1) (v := ?v1) (by rw [List.getElem?_toArray]; rfl) (by kernel_rfl) (by kernel_rfl) (by kernel_rfl) (by exact fun _ _ _ h => h) (Or.inl ⟨by rfl, ?y1⟩) ?r1)
      case y1 => (intro w'; go_simp; try with_reducible rfl)
      try simp only [Act.put, Base.s1, Base.s2, Base.s3]
      (refine wpAny_take (i := 2) (v := ?v2) (by rw [List.getElem?_toArray]; rfl) (by kernel_rfl) (by kernel_rfl) (by kernel_rfl) (by exact fun _ _ _ h => h) (Or.inl ⟨by rfl, ?y2⟩) ?r2)
      case y2 => (intro w'; go_simp; try with_reducible rfl)
      try simp only [Act.put, Base.s1, Base.s2, Base.s3]
      (refine wpAny_take (i := 3) (v := ?v3) (by rw [List.getElem?_toArray]; rfl) (by kernel_rfl) (by kernel_rfl) (by kernel_rfl) (by exact fun _ _ _ h => h) (Or.inl ⟨by rfl, ?y3⟩) ?r3)
      case y3 => (intro w'; go_simp; try with_reducible rfl)
      try simp only [Act.put, Base.s1, Base.s2, Base.s3]
      (refine wpAny_take (i := 4) (v := ?v4) (by rw [List.getElem?_toArray]; rfl) (by kernel_rfl) (by kernel_rfl) (by kernel_rfl) (by exact fun _ _ _ h => h) (Or.inl ⟨by rfl, ?y4⟩) ?r4)
      case y4 => (intro w'; go_simp; try with_reducible rfl)
      try simp only [Act.put, Base.s1, Base.s2, Base.s3]
      (refine wpAny_take (i := 5) (v := ?v5) (by rw [List.getElem?_toArray]; rfl) (by kernel_rfl) (by kernel_rfl) (by kernel_rfl) (by exact fun _ _ _ h => h) (Or.inl ⟨by rfl, ?y5⟩) ?r5)
      case y5 => (intro w'; go_simp; try with_reducible rfl)
      try simp only [Act.put, Base.s1, Base.s2, Base.s3]
      (refine wpAny_take (i := 6) (v := ?v6) (by rw [List.getElem?_toArray]; rfl) (by kernel_rfl) (by kernel_rfl) (by kernel_rfl) (by exact fun _ _ _ h => h) (Or.inl ⟨by rfl, ?y6⟩) ?r6)
      case y6 => (intro w'; go_simp; try with_reducible rfl)
      try simp only [Act.put, Base.s1, Base.s2, Base.s3]
      (refine wpAny_take (i := 7) (v := ?v7) (by rw [List.getElem?_toArray]; rfl) (by kernel_rfl) (by kernel_rfl) (by kernel_rfl) (by exact fun _ _ _ h => h) (Or.inl ⟨by rfl, ?y7⟩) ?r7)
      case y7 => (intro w'; go_simp; try with_reducible rfl)
      try simp only [Act.put, Base.s1, Base.s2, Base.s3]
      (refine wpAny_take (i := 8) (v := ?v8) (by rw [List.getElem?_toArray]; rfl) (by kernel_rfl) (by kernel_rfl) (by kernel_rfl) (by exact fun _ _ _ h => h) (Or.inl ⟨by rfl, ?y8⟩) ?r8)
      case y8 => (intro w'; go_simp; try with_reducible rfl)
      try simp only [Act.put, Base.s1, Base.s2, Base.s3]
      (refine wpAny_take (i := 9) (v := ?v9) (by rw [List.getElem?_toArray]; rfl) (by kernel_rfl) (by kernel_rfl) (by kernel_rfl) (by exact fun _ _ _ h => h) (Or.inl ⟨by rfl, ?y9⟩) ?r9)
      case y9 => (intro w'; go_simp; try with_reducible rfl)
      try simp only [Act.put, Base.s1, Base.s2, Base.s3]
      (refine wpAny_take (i := 10) (v := ?v10) (by rw [List.getElem?_toArray]; rfl) (by kernel_rfl) (by kernel_rfl) (by kernel_rfl) (by exact fun _ _ _ h => h) (Or.inl ⟨by rfl, ?y10⟩) ?r10)
      case y10 => (intro w'; go_simp; try with_reducible rfl)
      try simp only [Act.put, Base.s1, Base.s2, Base.s3]
      (refine wpAny_take (i := 11) (v := ?v11) (by rw [List.getElem?_toArray]; rfl) (by kernel_rfl) (by kernel_rfl) (by kernel_rfl) (by exact fun _ _ _ h => h) (Or.inl ⟨by rfl, ?y11⟩) ?r11)
      case y11 => (intro w'; go_simp; try with_reducible rfl)
      try simp only [Act.put, Base.s1, Base.s2, Base.s3]
      (refine wpAny_take (i := 12) (v := ?v12) (by rw [List.getElem?_toArray]; rfl) (by kernel_rfl) (by kernel_rfl) (by kernel_rfl) (by exact fun _ _ _ h => h) (Or.inl ⟨by rfl, ?y12⟩) ?r12)
      case y12 => (intro w'; go_simp; try with_reducible rfl)
      try simp only [Act.put, Base.s1, Base.s2, Base.s3]
      (refine wpAny_take (i := 13) (v := ?v13) (by rw [List.getElem?_toArray]; rfl) (by kernel_rfl) (by kernel_rfl) (by kernel_rfl) (by exact fun _ _ _ h => h) (Or.inl ⟨by rfl, ?y13⟩) ?r13)
      case y13 => (intro w'; go_simp; try with_reducible rfl)
      try simp only [Act.put, Base.s1, Base.s2, Base.s3]
      (refine wpAny_take (i := 14) (v := ?v14) (by rw [List.getElem?_toArray]; rfl) (by kernel_rfl) (by kernel_rfl) (by kernel_rfl) (by exact fun _ _ _ h => h) (Or.inl ⟨by rfl, ?y14⟩) ?r14)
      case y14 => (intro w'; go_simp; try with_reducible rfl)
      try simp only [Act.put, Base.s1, Base.s2, Base.s3]
      (refine wpAny_take (i := 16) (v := ?v16) (by rw [List.getElem?_toArray]; rfl) (by kernel_rfl) (by kernel_rfl) (by kernel_rfl) (by exact fun _ _ _ h => h) (Or.inl ⟨by rfl, ?y16⟩) ?r16)
      case y16 => (intro w'; go_simp; try with_reducible rfl)
      try simp only [Act.put, Base.s1, Base.s2, Base.s3]
      (refine wpAny_take (i := 17) (v := ?v17) (by rw [List.getElem?_toArray]; rfl) (by kernel_rfl) (by kernel_rfl) (by kernel_rfl) (by exact fun _ _ _ h => h) (Or.inl ⟨by rfl, ?y17⟩) ?r17)
      case y17 => (intro w'; go_simp; try with_reducible rfl)
      try simp only [Act.put, Base.s1, Base.s2, Base.s3]
      refine wpAny_ready (rs := [15]) (by kernel_rfl) (by simp) ?_
      refine AllReady.cons (by rw [List.getElem?_toArray]; rfl) (fun K hK => ?_) AllReady.nil
      go_simp
      refine (vowels_any _ _ hs).mono ?_
      rintro e w1 ⟨A, c, rfl, hA, hb1⟩
      obtain ⟨g, o, rfl, hg, hc⟩ := hA.at_ (by omega)
      have c1 := hc (s.size - 1) (by omega)
      clear hc hA
      refine hK _ _ ?_
      clear hK K
      try simp only [Act.put, Base.s1, Base.s2, Base.s3]
      (refine wpAny_take (i := 18) (v := ?v18) (by rw [List.getElem?_toArray]; rfl) (by kernel_rfl) (by kernel_rfl) (by kernel_rfl) (by exact fun _ _ _ h => h) (Or.inl ⟨by rfl, ?y18⟩) ?r18)
      case y18 => (intro w'; go_simp; try with_reducible rfl)
      try simp only [Act.put, Base.s1, Base.s2, Base.s3]
      refine wpAny_ready (rs := [19]) (by kernel_rfl) (by simp) ?_
      refine AllReady.cons (by rw [List.getElem?_toArray]; rfl) (fun K hK => ?_) AllReady.nil
      go_simp
      refine hK _ _ ?_
      clear hK K
      try simp only [Act.put, Base.s1, Base.s2, Base.s3]
      (refine wpAny_take (i := 20) (v := ?v20) (by rw [List.getElem?_toArray]; rfl) (by kernel_rfl) (by kernel_rfl) (by kernel_rfl) (by exact fun _ _ _ h => h) (Or.inl ⟨by rfl, ?y20⟩) ?r20)
      case y20 => (intro w'; go_simp; try with_reducible rfl)
      try simp only [Act.put, Base.s1, Base.s2, Base.s3]
      (refine wpAny_take (i := 21) (v := ?v21) (by rw [List.getElem?_toArray]; rfl) (by kernel_rfl) (by kernel_rfl) (by kernel_rfl) (by exact fun _ _ _ h => h) (Or.inl ⟨by rfl, ?y21⟩) ?r21)
      case y21 => (intro w'; go_simp; try with_reducible rfl)
      try simp only [Act.put, Base.s1, Base.s2, Base.s3]
      (refine wpAny_take (i := 22) (v := ?v22) (by rw [List.getElem?_toArray]; rfl) (by kernel_rfl) (by kernel_rfl) (by kernel_rfl) (by exact fun _ _ _ h => h) (Or.inl ⟨by rfl, ?y22⟩) ?r22)
      case y22 => (intro w'; go_simp; try with_reducible rfl)
      try simp only [Act.put, Base.s1, Base.s2, Base.s3]
      refine wpAny_done (by kernel_rfl) ?_ _
      go_wp2
      go_ret
      exact ⟨ret_bool HD.out.symm, (⟨rfl, rfl, rfl, Nat.le_refl _, fun _ _ => rfl⟩ : Below w.heap.size w w.drew).trans hb1⟩
    · have HD := Lib.hid (show dbl s = false by unfold dbl; simp [he])
      have he' : (bt s (s.size - 1) == bt s (s.size - 2)) = false := by simpa using he
      clear he
      go_enter Tryz.func245, Tryz.ntmps245
      go_wp2_with fail
      go_quiet (fail)
      go_wp2
      go_ret
      exact ⟨ret_bool HD.out.symm, ⟨rfl, rfl, rfl, Nat.le_refl _, fun _ _ => rfl⟩⟩
  · have HD := Lib.hid (show dbl s = false by unfold dbl; simp [h2])
    have d2 : decide ((2 : Int) ≤ (s.size : Int)) = false := by simp; omega
    go_enter Tryz.func245, Tryz.ntmps245
    go_wp2_with fail
    go_quiet (fail)
    go_wp2
    go_ret
    exact ⟨ret_bool HD.out.symm, ⟨rfl, rfl, rfl, Nat.le_refl _, fun _ _ => rfl⟩⟩
end Go.Proofs.YtkcfgcdlnojaeaaGreatDoor.EndsDouble

namespace Go.Proofs.YtkcfgcdlnojaeaaGreatDoor.StemWalk5
set_option maxRecDepth 100000
open Go.RowKit Go.PlainAid StemPlain Base Vowels StemWalk StemWalk2 StemWalk3 EndsDouble

set_option maxHeartbeats 1000000 in
theorem step1b_none (s : ByteArray) (w : World) (hs : s.size ≤ 281474976710656) (hbs : bst s L1b L1b.length = none) :
    Calls Tryz.prog 236 #[.string s] w fun r w' => r = .returned (.string (s1b s)) ∧ Below w.heap.size w w' := by
  have HN := Lib.hid (s1b_none hbs)
  have HL := Lib.hid (lrest_none hbs)
  have HB := Lib.hid hbs
  clear hbs
  go_enter Tryz.func236, Tryz.ntmps236
  go_wp2_with (go_at_call 242; refine (longest_any s L1b _ _ (w.heap.size + 1) _ hs (by decide) (by decide) (by simp) (slc_new w _ _)).mono ?_; rw [HL.out, HB.out]; simp only [atv]; rintro e w1 ⟨rfl, hb1⟩)
  go_ret
  exact ⟨ret_str HN.out.symm, bchain (balloc (Below.refl _ _) _) hb1⟩

set_option maxHeartbeats 1000000 in
theorem step1b_0 (s : ByteArray) (w : World) (hs : s.size ≤ 281474976710656) (hbs : bst s L1b L1b.length = some 0) :
    Calls Tryz.prog 236 #[.string s] w fun r w' => r = .returned (.string (s1b s)) ∧ Below w.heap.size w w' := by
  have HN := Lib.hid (s1b_0 hbs)
  have HL := Lib.hid (lrest_some (q := (⟨#[101, 101, 100]⟩, ⟨#[101, 101]⟩)) hbs rfl)
  have HB := Lib.hid hbs
  have hcs : (cut s ⟨#[101, 101, 100]⟩).size ≤ 281474976710656 := by rw [cut_size]; omega
  have hms := meas_lt (cut s ⟨#[101, 101, 100]⟩)
  clear hbs
  by_cases hm : 0 < meas (cut s ⟨#[101, 101, 100]⟩)
  · have hm' : (0 : Int) < ((meas (cut s ⟨#[101, 101, 100]⟩) : Nat) : Int) := by omega
    have HM := Lib.hid hm
    clear hm
    go_enter Tryz.func236, Tryz.ntmps236
    go_wp2_with (first
      | (go_at_call 242; refine (longest_any s L1b _ _ (w.heap.size + 1) _ hs (by decide) (by decide) (by simp) (slc_new w _ _)).mono ?_; rw [HL.out, HB.out]; simp only [atv]; rintro e w1 ⟨rfl, hb1⟩)
      | (go_at_call 240; refine (measure_any _ _ hcs).mono ?_; rintro e w2 ⟨rfl, hb2⟩))
    go_ret
    exact ⟨ret_str (by rw [HN.out, if_pos HM.out]), bchain (bchain (balloc (Below.refl _ _) _) hb1) hb2⟩
  · have hm' : ¬ (0 : Int) < ((meas (cut s ⟨#[101, 101, 100]⟩) : Nat) : Int) := by omega
    have HM := Lib.hid hm
    clear hm
    go_enter Tryz.func236, Tryz.ntmps236
    go_wp2_with (first
      | (go_at_call 242; refine (longest_any s L1b _ _ (w.heap.size + 1) _ hs (by decide) (by decide) (by simp) (slc_new w _ _)).mono ?_; rw [HL.out, HB.out]; simp only [atv]; rintro e w1 ⟨rfl, hb1⟩)
      | (go_at_call 240; refine (measure_any _ _ hcs).mono ?_; rintro e w2 ⟨rfl, hb2⟩))
    go_ret
    exact ⟨ret_str (by rw [HN.out, if_neg HM.out]), bchain (bchain (balloc (Below.refl _ _) _) hb1) hb2⟩

theorem mend_suf {r : ByteArray} (h : sfx r ⟨#[97, 116]⟩ = true ∨ sfx r ⟨#[98, 108]⟩ = true ∨ sfx r ⟨#[105, 122]⟩ = true) : mend r = r ++ ⟨#[101]⟩ := by
  unfold mend
  rw [if_pos]
  rcases h with h | h | h <;> simp [h]
theorem mend_rest {r : ByteArray} (h1 : sfx r ⟨#[97, 116]⟩ = false) (h2 : sfx r ⟨#[98, 108]⟩ = false) (h3 : sfx r ⟨#[105, 122]⟩ = false) :
    mend r = if dbl r && !lsz (bt r (r.size - 1)) then chop r else if meas r == 1 && shrt r then r ++ ⟨#[101]⟩ else r := by
  unfold mend
  rw [if_neg (by simp [h1, h2, h3])]
theorem dbl_size {r : ByteArray} (h : dbl r = true) : 2 ≤ r.size := by
  unfold dbl at h; simp only [Bool.and_eq_true, decide_eq_true_eq] at h; exact h.1


set_option maxHeartbeats 8000000 in
theorem step1b_1 (s : ByteArray) (w : World) (hs : s.size ≤ 281474976710656) (hbs : bst s L1b L1b.length = some 1) :
    Calls Tryz.prog 236 #[.string s] w fun r w' => r = .returned (.string (s1b s)) ∧ Below w.heap.size w w' := by
  have HN := Lib.hid (s1b_1 hbs)
  have HL := Lib.hid (lrest_some (q := (⟨#[101, 100]⟩, ⟨#[]⟩)) hbs rfl)
  have HB := Lib.hid hbs
  have hcs : (cut s ⟨#[101, 100]⟩).size ≤ 281474976710656 := by rw [cut_size]; omega
  obtain ⟨r, hr⟩ : ∃ r, r = cut s ⟨#[101, 100]⟩ := ⟨_, rfl⟩
  rw [← hr] at HN HL hcs
  have hms := meas_lt r
  have q0 := bt_nonneg r (r.size - 1)
  have q1 := bt_le r (r.size - 1)
  have hgb := get_bt r
  clear hbs hr
  rcases hv : hasV r with _ | _
  · have HV := Lib.hid hv
    go_enter Tryz.func236, Tryz.ntmps236
    go_wp2_with (first
      | (go_at_call 242; refine (longest_any s L1b _ _ (w.heap.size + 1) _ hs (by decide) (by decide) (by simp) (slc_new w _ _)).mono ?_; rw [HL.out, HB.out]; simp only [atv]; rintro e w1 ⟨rfl, hb1⟩)
      | (go_at_call 244; refine (hasVowel_any _ _ hcs).mono ?_; rintro e w2 ⟨rfl, hb2⟩))
    go_ret
    exact ⟨ret_str (by rw [HN.out, HV.out]; rfl), bchain (bchain (balloc (Below.refl _ _) _) hb1) hb2⟩
  · have HS : Hid (s1b s = mend r) := Lib.hid (by rw [HN.out, hv]; rfl)
    clear HN
    rcases h1 : sfx r ⟨#[97, 116]⟩ with _ | _
    · rcases h2 : sfx r ⟨#[98, 108]⟩ with _ | _
      · rcases h3 : sfx r ⟨#[105, 122]⟩ with _ | _
        · have HM := Lib.hid (mend_rest h1 h2 h3)
          rcases hd : dbl r with _ | _
          · have HD : Hid ((dbl r && !lsz (bt r (r.size - 1))) = false) := Lib.hid (by rw [hd]; rfl)
            rcases hm : (meas r == 1) with _ | _
            · have HM1 := Lib.hid hm
              have hmi : (((meas r : Nat) : Int) == 1) = false := by have : meas r ≠ 1 := by simpa using hm
                                                                     simp; omega
              clear hm
              go_enter Tryz.func236, Tryz.ntmps236
              go_wp2_with (first
                | (go_at_call 242; refine (longest_any s L1b _ _ (w.heap.size + 1) _ hs (by decide) (by decide) (by simp) (slc_new w _ _)).mono ?_; rw [HL.out, HB.out]; simp only [atv]; rintro e w1 ⟨rfl, hb1⟩)
                | (go_at_call 244; refine (hasVowel_any _ _ hcs).mono ?_; rintro e w2 ⟨rfl, hb2⟩))
              refine wp_loop_rounds 4 ?_
              iterate 4 (rw [rounds_succ]; go_wp2_with (first
                | (go_at_call 230; refine (hasSuffix_any _ _ _ hcs (by decide)).mono ?_; rintro e w' ⟨rfl, rfl⟩)
                | (go_at_call 245; refine (endsDouble_any _ _ hcs).mono ?_; rintro e w3 ⟨rfl, hb3⟩)
                | (go_at_call 240; refine (measure_any _ _ hcs).mono ?_; rintro e w4 ⟨rfl, hb4⟩)
                | (go_at_call 241; refine (endsShort_any _ _ hcs).mono ?_; rintro e w5 ⟨rfl, hb5⟩)))
              go_ret
              refine ⟨ret_str ?_, by exact Base.bel⟩
              rw [HS.out, HM.out, HD.out, HM1.out]
              rfl
            · have HM1 := Lib.hid hm
              have hmi : (((meas r : Nat) : Int) == 1) = true := by have : meas r = 1 := by simpa using hm
                                                                    simp; omega
              clear hm
              rcases hsh : shrt r with _ | _
              · have HSH := Lib.hid hsh
                go_enter Tryz.func236, Tryz.ntmps236
                go_wp2_with (first
                  | (go_at_call 242; refine (longest_any s L1b _ _ (w.heap.size + 1) _ hs (by decide) (by decide) (by simp) (slc_new w _ _)).mono ?_; rw [HL.out, HB.out]; simp only [atv]; rintro e w1 ⟨rfl, hb1⟩)
                  | (go_at_call 244; refine (hasVowel_any _ _ hcs).mono ?_; rintro e w2 ⟨rfl, hb2⟩))
                refine wp_loop_rounds 4 ?_
                iterate 4 (rw [rounds_succ]; go_wp2_with (first
                  | (go_at_call 230; refine (hasSuffix_any _ _ _ hcs (by decide)).mono ?_; rintro e w' ⟨rfl, rfl⟩)
                  | (go_at_call 245; refine (endsDouble_any _ _ hcs).mono ?_; rintro e w3 ⟨rfl, hb3⟩)
                  | (go_at_call 240; refine (measure_any _ _ hcs).mono ?_; rintro e w4 ⟨rfl, hb4⟩)
                  | (go_at_call 241; refine (endsShort_any _ _ hcs).mono ?_; rintro e w5 ⟨rfl, hb5⟩)))
                go_ret
                refine ⟨ret_str ?_, by exact Base.bel⟩
                rw [HS.out, HM.out, HD.out, HM1.out, HSH.out]
                rfl
              · have HSH := Lib.hid hsh
                go_enter Tryz.func236, Tryz.ntmps236
                go_wp2_with (first
                  | (go_at_call 242; refine (longest_any s L1b _ _ (w.heap.size + 1) _ hs (by decide) (by decide) (by simp) (slc_new w _ _)).mono ?_; rw [HL.out, HB.out]; simp only [atv]; rintro e w1 ⟨rfl, hb1⟩)
                  | (go_at_call 244; refine (hasVowel_any _ _ hcs).mono ?_; rintro e w2 ⟨rfl, hb2⟩))
                refine wp_loop_rounds 4 ?_
                iterate 4 (rw [rounds_succ]; go_wp2_with (first
                  | (go_at_call 230; refine (hasSuffix_any _ _ _ hcs (by decide)).mono ?_; rintro e w' ⟨rfl, rfl⟩)
                  | (go_at_call 245; refine (endsDouble_any _ _ hcs).mono ?_; rintro e w3 ⟨rfl, hb3⟩)
                  | (go_at_call 240; refine (measure_any _ _ hcs).mono ?_; rintro e w4 ⟨rfl, hb4⟩)
                  | (go_at_call 241; refine (endsShort_any _ _ hcs).mono ?_; rintro e w5 ⟨rfl, hb5⟩)))
                go_ret
                refine ⟨ret_str ?_, by exact Base.bel⟩
                rw [HS.out, HM.out, HD.out, HM1.out, HSH.out]
                rfl
          · have hsz := dbl_size hd
            rcases hl : lsz (bt r (r.size - 1)) with _ | _
            · have HD : Hid ((dbl r && !lsz (bt r (r.size - 1))) = true) := Lib.hid (by rw [hd, hl]; rfl)
              have HLZ := Lib.hid hl
              clear hl
              go_enter Tryz.func236, Tryz.ntmps236
              go_wp2_with (first
                | (go_at_call 242; refine (longest_any s L1b _ _ (w.heap.size + 1) _ hs (by decide) (by decide) (by simp) (slc_new w _ _)).mono ?_; rw [HL.out, HB.out]; simp only [atv]; rintro e w1 ⟨rfl, hb1⟩)
                | (go_at_call 244; refine (hasVowel_any _ _ hcs).mono ?_; rintro e w2 ⟨rfl, hb2⟩))
              refine wp_loop_rounds 4 ?_
              iterate 4 (rw [rounds_succ]; go_wp2_with (first
                | (go_at_call 230; refine (hasSuffix_any _ _ _ hcs (by decide)).mono ?_; rintro e w' ⟨rfl, rfl⟩)
                | (go_at_call 245; refine (endsDouble_any _ _ hcs).mono ?_; rintro e w3 ⟨rfl, hb3⟩)
                | (go_at_call 240; refine (measure_any _ _ hcs).mono ?_; rintro e w4 ⟨rfl, hb4⟩)
                | (go_at_call 241; refine (endsShort_any _ _ hcs).mono ?_; rintro e w5 ⟨rfl, hb5⟩)
                | (go_at_call 246; refine (lsz_no _ _ q0 q1 HLZ.out).mono ?_; rintro e w' ⟨⟨i, rfl, hi⟩, rfl⟩)))
              go_ret
              refine ⟨ret_str ?_, by exact Base.bel⟩
              rw [HS.out, HM.out, HD.out]
              rfl
            · have HD : Hid ((dbl r && !lsz (bt r (r.size - 1))) = false) := Lib.hid (by rw [hd, hl]; rfl)
              have HLZ := Lib.hid hl
              clear hl
              rcases hm : (meas r == 1) with _ | _
              · have HM1 := Lib.hid hm
                have hmi : (((meas r : Nat) : Int) == 1) = false := by have : meas r ≠ 1 := by simpa using hm
                                                                       simp; omega
                clear hm
                go_enter Tryz.func236, Tryz.ntmps236
                go_wp2_with (first
                  | (go_at_call 242; refine (longest_any s L1b _ _ (w.heap.size + 1) _ hs (by decide) (by decide) (by simp) (slc_new w _ _)).mono ?_; rw [HL.out, HB.out]; simp only [atv]; rintro e w1 ⟨rfl, hb1⟩)
                  | (go_at_call 244; refine (hasVowel_any _ _ hcs).mono ?_; rintro e w2 ⟨rfl, hb2⟩))
                refine wp_loop_rounds 4 ?_
                iterate 4 (rw [rounds_succ]; go_wp2_with (first
                  | (go_at_call 230; refine (hasSuffix_any _ _ _ hcs (by decide)).mono ?_; rintro e w' ⟨rfl, rfl⟩)
                  | (go_at_call 245; refine (endsDouble_any _ _ hcs).mono ?_; rintro e w3 ⟨rfl, hb3⟩)
                  | (go_at_call 240; refine (measure_any _ _ hcs).mono ?_; rintro e w4 ⟨rfl, hb4⟩)
                  | (go_at_call 241; refine (endsShort_any _ _ hcs).mono ?_; rintro e w5 ⟨rfl, hb5⟩)
                  | (go_at_call 246; refine (lsz_yes _ _ q0 q1 HLZ.out).mono ?_; rintro e w' ⟨⟨i, rfl, hi⟩, rfl⟩)))
                go_ret
                refine ⟨ret_str ?_, by exact Base.bel⟩
                rw [HS.out, HM.out, HD.out, HM1.out]
                rfl
              · have HM1 := Lib.hid hm
                have hmi : (((meas r : Nat) : Int) == 1) = true := by have : meas r = 1 := by simpa using hm
                                                                      simp; omega
                clear hm
                rcases hsh : shrt r with _ | _
                · have HSH := Lib.hid hsh
                  go_enter Tryz.func236, Tryz.ntmps236
                  go_wp2_with (first
                    | (go_at_call 242; refine (longest_any s L1b _ _ (w.heap.size + 1) _ hs (by decide) (by decide) (by simp) (slc_new w _ _)).mono ?_; rw [HL.out, HB.out]; simp only [atv]; rintro e w1 ⟨rfl, hb1⟩)
                    | (go_at_call 244; refine (hasVowel_any _ _ hcs).mono ?_; rintro e w2 ⟨rfl, hb2⟩))
                  refine wp_loop_rounds 4 ?_
                  iterate 4 (rw [rounds_succ]; go_wp2_with (first
                    | (go_at_call 230; refine (hasSuffix_any _ _ _ hcs (by decide)).mono ?_; rintro e w' ⟨rfl, rfl⟩)
                    | (go_at_call 245; refine (endsDouble_any _ _ hcs).mono ?_; rintro e w3 ⟨rfl, hb3⟩)
                    | (go_at_call 240; refine (measure_any _ _ hcs).mono ?_; rintro e w4 ⟨rfl, hb4⟩)
                    | (go_at_call 241; refine (endsShort_any _ _ hcs).mono ?_; rintro e w5 ⟨rfl, hb5⟩)
                    | (go_at_call 246; refine (lsz_yes _ _ q0 q1 HLZ.out).mono ?_; rintro e w' ⟨⟨i, rfl, hi⟩, rfl⟩)))
                  go_ret
                  refine ⟨ret_str ?_, by exact Base.bel⟩
                  rw [HS.out, HM.out, HD.out, HM1.out, HSH.out]
                  rfl
                · have HSH := Lib.hid hsh
                  go_enter Tryz.func236, Tryz.ntmps236
                  go_wp2_with (first
                    | (go_at_call 242; refine (longest_any s L1b _ _ (w.heap.size + 1) _ hs (by decide) (by decide) (by simp) (slc_new w _ _)).mono ?_; rw [HL.out, HB.out]; simp only [atv]; rintro e w1 ⟨rfl, hb1⟩)
                    | (go_at_call 244; refine (hasVowel_any _ _ hcs).mono ?_; rintro e w2 ⟨rfl, hb2⟩))
                  refine wp_loop_rounds 4 ?_
                  iterate 4 (rw [rounds_succ]; go_wp2_with (first
                    | (go_at_call 230; refine (hasSuffix_any _ _ _ hcs (by decide)).mono ?_; rintro e w' ⟨rfl, rfl⟩)
                    | (go_at_call 245; refine (endsDouble_any _ _ hcs).mono ?_; rintro e w3 ⟨rfl, hb3⟩)
                    | (go_at_call 240; refine (measure_any _ _ hcs).mono ?_; rintro e w4 ⟨rfl, hb4⟩)
                    | (go_at_call 241; refine (endsShort_any _ _ hcs).mono ?_; rintro e w5 ⟨rfl, hb5⟩)
                    | (go_at_call 246; refine (lsz_yes _ _ q0 q1 HLZ.out).mono ?_; rintro e w' ⟨⟨i, rfl, hi⟩, rfl⟩)))
                  go_ret
                  refine ⟨ret_str ?_, by exact Base.bel⟩
                  rw [HS.out, HM.out, HD.out, HM1.out, HSH.out]
                  rfl
        · have HM := Lib.hid (mend_suf (.inr (.inr h3)))
          go_enter Tryz.func236, Tryz.ntmps236
          go_wp2_with (first
            | (go_at_call 242; refine (longest_any s L1b _ _ (w.heap.size + 1) _ hs (by decide) (by decide) (by simp) (slc_new w _ _)).mono ?_; rw [HL.out, HB.out]; simp only [atv]; rintro e w1 ⟨rfl, hb1⟩)
            | (go_at_call 244; refine (hasVowel_any _ _ hcs).mono ?_; rintro e w2 ⟨rfl, hb2⟩))
          refine wp_loop_rounds 4 ?_
          iterate 3 (rw [rounds_succ]; go_wp2_with (first
            | (go_at_call 230; refine (hasSuffix_any _ _ _ hcs (by decide)).mono ?_; rintro e w' ⟨rfl, rfl⟩)
            | (go_at_call 245; refine (endsDouble_any _ _ hcs).mono ?_; rintro e w3 ⟨rfl, hb3⟩)
            | (go_at_call 240; refine (measure_any _ _ hcs).mono ?_; rintro e w4 ⟨rfl, hb4⟩)
            | (go_at_call 241; refine (endsShort_any _ _ hcs).mono ?_; rintro e w5 ⟨rfl, hb5⟩)))
          go_ret
          refine ⟨ret_str ?_, by exact Base.bel⟩
          exact (HS.out.trans HM.out).symm
      · have HM := Lib.hid (mend_suf (.inr (.inl h2)))
        go_enter Tryz.func236, Tryz.ntmps236
        go_wp2_with (first
          | (go_at_call 242; refine (longest_any s L1b _ _ (w.heap.size + 1) _ hs (by decide) (by decide) (by simp) (slc_new w _ _)).mono ?_; rw [HL.out, HB.out]; simp only [atv]; rintro e w1 ⟨rfl, hb1⟩)
          | (go_at_call 244; refine (hasVowel_any _ _ hcs).mono ?_; rintro e w2 ⟨rfl, hb2⟩))
        refine wp_loop_rounds 4 ?_
        iterate 2 (rw [rounds_succ]; go_wp2_with (first
          | (go_at_call 230; refine (hasSuffix_any _ _ _ hcs (by decide)).mono ?_; rintro e w' ⟨rfl, rfl⟩)
          | (go_at_call 245; refine (endsDouble_any _ _ hcs).mono ?_; rintro e w3 ⟨rfl, hb3⟩)
          | (go_at_call 240; refine (measure_any _ _ hcs).mono ?_; rintro e w4 ⟨rfl, hb4⟩)
          | (go_at_call 241; refine (endsShort_any _ _ hcs).mono ?_; rintro e w5 ⟨rfl, hb5⟩)))
        go_ret
        refine ⟨ret_str ?_, by exact Base.bel⟩
        exact (HS.out.trans HM.out).symm
    · have HM := Lib.hid (mend_suf (.inl h1))
      go_enter Tryz.func236, Tryz.ntmps236
      go_wp2_with (first
        | (go_at_call 242; refine (longest_any s L1b _ _ (w.heap.size + 1) _ hs (by decide) (by decide) (by simp) (slc_new w _ _)).mono ?_; rw [HL.out, HB.out]; simp only [atv]; rintro e w1 ⟨rfl, hb1⟩)
        | (go_at_call 244; refine (hasVowel_any _ _ hcs).mono ?_; rintro e w2 ⟨rfl, hb2⟩))
      refine wp_loop_rounds 4 ?_
      iterate 1 (rw [rounds_succ]; go_wp2_with (first
        | (go_at_call 230; refine (hasSuffix_any _ _ _ hcs (by decide)).mono ?_; rintro e w' ⟨rfl, rfl⟩)
        | (go_at_call 245; refine (endsDouble_any _ _ hcs).mono ?_; rintro e w3 ⟨rfl, hb3⟩)
        | (go_at_call 240; refine (measure_any _ _ hcs).mono ?_; rintro e w4 ⟨rfl, hb4⟩)
        | (go_at_call 241; refine (endsShort_any _ _ hcs).mono ?_; rintro e w5 ⟨rfl, hb5⟩)))
      go_ret
      refine ⟨ret_str ?_, by exact Base.bel⟩
      exact (HS.out.trans HM.out).symm

set_option maxHeartbeats 8000000 in
theorem step1b_2 (s : ByteArray) (w : World) (hs : s.size ≤ 281474976710656) (hbs : bst s L1b L1b.length = some 2) :
    Calls Tryz.prog 236 #[.string s] w fun r w' => r = .returned (.string (s1b s)) ∧ Below w.heap.size w w' := by
  have HN := Lib.hid (s1b_2 hbs)
  have HL := Lib.hid (lrest_some (q := (⟨#[105, 110, 103]⟩, ⟨#[]⟩)) hbs rfl)
  have HB := Lib.hid hbs
  have hcs : (cut s ⟨#[105, 110, 103]⟩).size ≤ 281474976710656 := by rw [cut_size]; omega
  obtain ⟨r, hr⟩ : ∃ r, r = cut s ⟨#[105, 110, 103]⟩ := ⟨_, rfl⟩
  rw [← hr] at HN HL hcs
  have hms := meas_lt r
  have q0 := bt_nonneg r (r.size - 1)
  have q1 := bt_le r (r.size - 1)
  have hgb := get_bt r
  clear hbs hr
  rcases hv : hasV r with _ | _
  · have HV := Lib.hid hv
    go_enter Tryz.func236, Tryz.ntmps236
    go_wp2_with (first
      | (go_at_call 242; refine (longest_any s L1b _ _ (w.heap.size + 1) _ hs (by decide) (by decide) (by simp) (slc_new w _ _)).mono ?_; rw [HL.out, HB.out]; simp only [atv]; rintro e w1 ⟨rfl, hb1⟩)
      | (go_at_call 244; refine (hasVowel_any _ _ hcs).mono ?_; rintro e w2 ⟨rfl, hb2⟩))
    go_ret
    exact ⟨ret_str (by rw [HN.out, HV.out]; rfl), bchain (bchain (balloc (Below.refl _ _) _) hb1) hb2⟩
  · have HS : Hid (s1b s = mend r) := Lib.hid (by rw [HN.out, hv]; rfl)
    clear HN
    rcases h1 : sfx r ⟨#[97, 116]⟩ with _ | _
    · rcases h2 : sfx r ⟨#[98, 108]⟩ with _ | _
      · rcases h3 : sfx r ⟨#[105, 122]⟩ with _ | _
        · have HM := Lib.hid (mend_rest h1 h2 h3)
          rcases hd : dbl r with _ | _
          · have HD : Hid ((dbl r && !lsz (bt r (r.size - 1))) = false) := Lib.hid (by rw [hd]; rfl)
            rcases hm : (meas r == 1) with _ | _
            · have HM1 := Lib.hid hm
              have hmi : (((meas r : Nat) : Int) == 1) = false := by have : meas r ≠ 1 := by simpa using hm
                                                                     simp; omega
              clear hm
              go_enter Tryz.func236, Tryz.ntmps236
              go_wp2_with (first
                | (go_at_call 242; refine (longest_any s L1b _ _ (w.heap.size + 1) _ hs (by decide) (by decide) (by simp) (slc_new w _ _)).mono ?_; rw [HL.out, HB.out]; simp only [atv]; rintro e w1 ⟨rfl, hb1⟩)
                | (go_at_call 244; refine (hasVowel_any _ _ hcs).mono ?_; rintro e w2 ⟨rfl, hb2⟩))
              refine wp_loop_rounds 4 ?_
              iterate 4 (rw [rounds_succ]; go_wp2_with (first
                | (go_at_call 230; refine (hasSuffix_any _ _ _ hcs (by decide)).mono ?_; rintro e w' ⟨rfl, rfl⟩)
                | (go_at_call 245; refine (endsDouble_any _ _ hcs).mono ?_; rintro e w3 ⟨rfl, hb3⟩)
                | (go_at_call 240; refine (measure_any _ _ hcs).mono ?_; rintro e w4 ⟨rfl, hb4⟩)
                | (go_at_call 241; refine (endsShort_any _ _ hcs).mono ?_; rintro e w5 ⟨rfl, hb5⟩)))
              go_ret
              refine ⟨ret_str ?_, by exact Base.bel⟩
              rw [HS.out, HM.out, HD.out, HM1.out]
              rfl
            · have HM1 := Lib.hid hm
              have hmi : (((meas r : Nat) : Int) == 1) = true := by have : meas r = 1 := by simpa using hm
                                                                    simp; omega
              clear hm
              rcases hsh : shrt r with _ | _
              · have HSH := Lib.hid hsh
                go_enter Tryz.func236, Tryz.ntmps236
                go_wp2_with (first
                  | (go_at_call 242; refine (longest_any s L1b _ _ (w.heap.size + 1) _ hs (by decide) (by decide) (by simp) (slc_new w _ _)).mono ?_; rw [HL.out, HB.out]; simp only [atv]; rintro e w1 ⟨rfl, hb1⟩)
                  | (go_at_call 244; refine (hasVowel_any _ _ hcs).mono ?_; rintro e w2 ⟨rfl, hb2⟩))
                refine wp_loop_rounds 4 ?_
                iterate 4 (rw [rounds_succ]; go_wp2_with (first
                  | (go_at_call 230; refine (hasSuffix_any _ _ _ hcs (by decide)).mono ?_; rintro e w' ⟨rfl, rfl⟩)
                  | (go_at_call 245; refine (endsDouble_any _ _ hcs).mono ?_; rintro e w3 ⟨rfl, hb3⟩)
                  | (go_at_call 240; refine (measure_any _ _ hcs).mono ?_; rintro e w4 ⟨rfl, hb4⟩)
                  | (go_at_call 241; refine (endsShort_any _ _ hcs).mono ?_; rintro e w5 ⟨rfl, hb5⟩)))
                go_ret
                refine ⟨ret_str ?_, by exact Base.bel⟩
                rw [HS.out, HM.out, HD.out, HM1.out, HSH.out]
                rfl
              · have HSH := Lib.hid hsh
                go_enter Tryz.func236, Tryz.ntmps236
                go_wp2_with (first
                  | (go_at_call 242; refine (longest_any s L1b _ _ (w.heap.size + 1) _ hs (by decide) (by decide) (by simp) (slc_new w _ _)).mono ?_; rw [HL.out, HB.out]; simp only [atv]; rintro e w1 ⟨rfl, hb1⟩)
                  | (go_at_call 244; refine (hasVowel_any _ _ hcs).mono ?_; rintro e w2 ⟨rfl, hb2⟩))
                refine wp_loop_rounds 4 ?_
                iterate 4 (rw [rounds_succ]; go_wp2_with (first
                  | (go_at_call 230; refine (hasSuffix_any _ _ _ hcs (by decide)).mono ?_; rintro e w' ⟨rfl, rfl⟩)
                  | (go_at_call 245; refine (endsDouble_any _ _ hcs).mono ?_; rintro e w3 ⟨rfl, hb3⟩)
                  | (go_at_call 240; refine (measure_any _ _ hcs).mono ?_; rintro e w4 ⟨rfl, hb4⟩)
                  | (go_at_call 241; refine (endsShort_any _ _ hcs).mono ?_; rintro e w5 ⟨rfl, hb5⟩)))
                go_ret
                refine ⟨ret_str ?_, by exact Base.bel⟩
                rw [HS.out, HM.out, HD.out, HM1.out, HSH.out]
                rfl
          · have hsz := dbl_size hd
            rcases hl : lsz (bt r (r.size - 1)) with _ | _
            · have HD : Hid ((dbl r && !lsz (bt r (r.size - 1))) = true) := Lib.hid (by rw [hd, hl]; rfl)
              have HLZ := Lib.hid hl
              clear hl
              go_enter Tryz.func236, Tryz.ntmps236
              go_wp2_with (first
                | (go_at_call 242; refine (longest_any s L1b _ _ (w.heap.size + 1) _ hs (by decide) (by decide) (by simp) (slc_new w _ _)).mono ?_; rw [HL.out, HB.out]; simp only [atv]; rintro e w1 ⟨rfl, hb1⟩)
                | (go_at_call 244; refine (hasVowel_any _ _ hcs).mono ?_; rintro e w2 ⟨rfl, hb2⟩))
              refine wp_loop_rounds 4 ?_
              iterate 4 (rw [rounds_succ]; go_wp2_with (first
                | (go_at_call 230; refine (hasSuffix_any _ _ _ hcs (by decide)).mono ?_; rintro e w' ⟨rfl, rfl⟩)
                | (go_at_call 245; refine (endsDouble_any _ _ hcs).mono ?_; rintro e w3 ⟨rfl, hb3⟩)
                | (go_at_call 240; refine (measure_any _ _ hcs).mono ?_; rintro e w4 ⟨rfl, hb4⟩)
                | (go_at_call 241; refine (endsShort_any _ _ hcs).mono ?_; rintro e w5 ⟨rfl, hb5⟩)
                | (go_at_call 246; refine (lsz_no _ _ q0 q1 HLZ.out).mono ?_; rintro e w' ⟨⟨i, rfl, hi⟩, rfl⟩)))
              go_ret
              refine ⟨ret_str ?_, by exact Base.bel⟩
              rw [HS.out, HM.out, HD.out]
              rfl
            · have HD : Hid ((dbl r && !lsz (bt r (r.size - 1))) = false) := Lib.hid (by rw [hd, hl]; rfl)
              have HLZ := Lib.hid hl
              clear hl
              rcases hm : (meas r == 1) with _ | _
              · have HM1 := Lib.hid hm
                have hmi : (((meas r : Nat) : Int) == 1) = false := by have : meas r ≠ 1 := by simpa using hm
                                                                       simp; omega
                clear hm
                go_enter Tryz.func236, Tryz.ntmps236
                go_wp2_with (first
                  | (go_at_call 242; refine (longest_any s L1b _ _ (w.heap.size + 1) _ hs (by decide) (by decide) (by simp) (slc_new w _ _)).mono ?_; rw [HL.out, HB.out]; simp only [atv]; rintro e w1 ⟨rfl, hb1⟩)
                  | (go_at_call 244; refine (hasVowel_any _ _ hcs).mono ?_; rintro e w2 ⟨rfl, hb2⟩))
                refine wp_loop_rounds 4 ?_
                iterate 4 (rw [rounds_succ]; go_wp2_with (first
                  | (go_at_call 230; refine (hasSuffix_any _ _ _ hcs (by decide)).mono ?_; rintro e w' ⟨rfl, rfl⟩)
                  | (go_at_call 245; refine (endsDouble_any _ _ hcs).mono ?_; rintro e w3 ⟨rfl, hb3⟩)
                  | (go_at_call 240; refine (measure_any _ _ hcs).mono ?_; rintro e w4 ⟨rfl, hb4⟩)
                  | (go_at_call 241; refine (endsShort_any _ _ hcs).mono ?_; rintro e w5 ⟨rfl, hb5⟩)
                  | (go_at_call 246; refine (lsz_yes _ _ q0 q1 HLZ.out).mono ?_; rintro e w' ⟨⟨i, rfl, hi⟩, rfl⟩)))
                go_ret
                refine ⟨ret_str ?_, by exact Base.bel⟩
                rw [HS.out, HM.out, HD.out, HM1.out]
                rfl
              · have HM1 := Lib.hid hm
                have hmi : (((meas r : Nat) : Int) == 1) = true := by have : meas r = 1 := by simpa using hm
                                                                      simp; omega
                clear hm
                rcases hsh : shrt r with _ | _
                · have HSH := Lib.hid hsh
                  go_enter Tryz.func236, Tryz.ntmps236
                  go_wp2_with (first
                    | (go_at_call 242; refine (longest_any s L1b _ _ (w.heap.size + 1) _ hs (by decide) (by decide) (by simp) (slc_new w _ _)).mono ?_; rw [HL.out, HB.out]; simp only [atv]; rintro e w1 ⟨rfl, hb1⟩)
                    | (go_at_call 244; refine (hasVowel_any _ _ hcs).mono ?_; rintro e w2 ⟨rfl, hb2⟩))
                  refine wp_loop_rounds 4 ?_
                  iterate 4 (rw [rounds_succ]; go_wp2_with (first
                    | (go_at_call 230; refine (hasSuffix_any _ _ _ hcs (by decide)).mono ?_; rintro e w' ⟨rfl, rfl⟩)
                    | (go_at_call 245; refine (endsDouble_any _ _ hcs).mono ?_; rintro e w3 ⟨rfl, hb3⟩)
                    | (go_at_call 240; refine (measure_any _ _ hcs).mono ?_; rintro e w4 ⟨rfl, hb4⟩)
                    | (go_at_call 241; refine (endsShort_any _ _ hcs).mono ?_; rintro e w5 ⟨rfl, hb5⟩)
                    | (go_at_call 246; refine (lsz_yes _ _ q0 q1 HLZ.out).mono ?_; rintro e w' ⟨⟨i, rfl, hi⟩, rfl⟩)))
                  go_ret
                  refine ⟨ret_str ?_, by exact Base.bel⟩
                  rw [HS.out, HM.out, HD.out, HM1.out, HSH.out]
                  rfl
                · have HSH := Lib.hid hsh
                  go_enter Tryz.func236, Tryz.ntmps236
                  go_wp2_with (first
                    | (go_at_call 242; refine (longest_any s L1b _ _ (w.heap.size + 1) _ hs (by decide) (by decide) (by simp) (slc_new w _ _)).mono ?_; rw [HL.out, HB.out]; simp only [atv]; rintro e w1 ⟨rfl, hb1⟩)
                    | (go_at_call 244; refine (hasVowel_any _ _ hcs).mono ?_; rintro e w2 ⟨rfl, hb2⟩))
                  refine wp_loop_rounds 4 ?_
                  iterate 4 (rw [rounds_succ]; go_wp2_with (first
                    | (go_at_call 230; refine (hasSuffix_any _ _ _ hcs (by decide)).mono ?_; rintro e w' ⟨rfl, rfl⟩)
                    | (go_at_call 245; refine (endsDouble_any _ _ hcs).mono ?_; rintro e w3 ⟨rfl, hb3⟩)
                    | (go_at_call 240; refine (measure_any _ _ hcs).mono ?_; rintro e w4 ⟨rfl, hb4⟩)
                    | (go_at_call 241; refine (endsShort_any _ _ hcs).mono ?_; rintro e w5 ⟨rfl, hb5⟩)
                    | (go_at_call 246; refine (lsz_yes _ _ q0 q1 HLZ.out).mono ?_; rintro e w' ⟨⟨i, rfl, hi⟩, rfl⟩)))
                  go_ret
                  refine ⟨ret_str ?_, by exact Base.bel⟩
                  rw [HS.out, HM.out, HD.out, HM1.out, HSH.out]
                  rfl
        · have HM := Lib.hid (mend_suf (.inr (.inr h3)))
          go_enter Tryz.func236, Tryz.ntmps236
          go_wp2_with (first
            | (go_at_call 242; refine (longest_any s L1b _ _ (w.heap.size + 1) _ hs (by decide) (by decide) (by simp) (slc_new w _ _)).mono ?_; rw [HL.out, HB.out]; simp only [atv]; rintro e w1 ⟨rfl, hb1⟩)
            | (go_at_call 244; refine (hasVowel_any _ _ hcs).mono ?_; rintro e w2 ⟨rfl, hb2⟩))
          refine wp_loop_rounds 4 ?_
          iterate 3 (rw [rounds_succ]; go_wp2_with (first
            | (go_at_call 230; refine (hasSuffix_any _ _ _ hcs (by decide)).mono ?_; rintro e w' ⟨rfl, rfl⟩)
            | (go_at_call 245; refine (endsDouble_any _ _ hcs).mono ?_; rintro e w3 ⟨rfl, hb3⟩)
            | (go_at_call 240; refine (measure_any _ _ hcs).mono ?_; rintro e w4 ⟨rfl, hb4⟩)
            | (go_at_call 241; refine (endsShort_any _ _ hcs).mono ?_; rintro e w5 ⟨rfl, hb5⟩)))
          go_ret
          refine ⟨ret_str ?_, by exact Base.bel⟩
          exact (HS.out.trans HM.out).symm
      · have HM := Lib.hid (mend_suf (.inr (.inl h2)))
        go_enter Tryz.func236, Tryz.ntmps236
        go_wp2_with (first
          | (go_at_call 242; refine (longest_any s L1b _ _ (w.heap.size + 1) _ hs (by decide) (by decide) (by simp) (slc_new w _ _)).mono ?_; rw [HL.out, HB.out]; simp only [atv]; rintro e w1 ⟨rfl, hb1⟩)
          | (go_at_call 244; refine (hasVowel_any _ _ hcs).mono ?_; rintro e w2 ⟨rfl, hb2⟩))
        refine wp_loop_rounds 4 ?_
        iterate 2 (rw [rounds_succ]; go_wp2_with (first
          | (go_at_call 230; refine (hasSuffix_any _ _ _ hcs (by decide)).mono ?_; rintro e w' ⟨rfl, rfl⟩)
          | (go_at_call 245; refine (endsDouble_any _ _ hcs).mono ?_; rintro e w3 ⟨rfl, hb3⟩)
          | (go_at_call 240; refine (measure_any _ _ hcs).mono ?_; rintro e w4 ⟨rfl, hb4⟩)
          | (go_at_call 241; refine (endsShort_any _ _ hcs).mono ?_; rintro e w5 ⟨rfl, hb5⟩)))
        go_ret
        refine ⟨ret_str ?_, by exact Base.bel⟩
        exact (HS.out.trans HM.out).symm
    · have HM := Lib.hid (mend_suf (.inl h1))
      go_enter Tryz.func236, Tryz.ntmps236
      go_wp2_with (first
        | (go_at_call 242; refine (longest_any s L1b _ _ (w.heap.size + 1) _ hs (by decide) (by decide) (by simp) (slc_new w _ _)).mono ?_; rw [HL.out, HB.out]; simp only [atv]; rintro e w1 ⟨rfl, hb1⟩)
        | (go_at_call 244; refine (hasVowel_any _ _ hcs).mono ?_; rintro e w2 ⟨rfl, hb2⟩))
      refine wp_loop_rounds 4 ?_
      iterate 1 (rw [rounds_succ]; go_wp2_with (first
        | (go_at_call 230; refine (hasSuffix_any _ _ _ hcs (by decide)).mono ?_; rintro e w' ⟨rfl, rfl⟩)
        | (go_at_call 245; refine (endsDouble_any _ _ hcs).mono ?_; rintro e w3 ⟨rfl, hb3⟩)
        | (go_at_call 240; refine (measure_any _ _ hcs).mono ?_; rintro e w4 ⟨rfl, hb4⟩)
        | (go_at_call 241; refine (endsShort_any _ _ hcs).mono ?_; rintro e w5 ⟨rfl, hb5⟩)))
      go_ret
      refine ⟨ret_str ?_, by exact Base.bel⟩
      exact (HS.out.trans HM.out).symm

theorem step1b_any (s : ByteArray) (w : World) (hs : s.size ≤ 281474976710656) :
    Calls Tryz.prog 236 #[.string s] w fun r w' => r = .returned (.string (s1b s)) ∧ Below w.heap.size w w' := by
  rcases hbs : bst s L1b L1b.length with _ | j
  · exact step1b_none s w hs hbs
  · have hj : j < 3 := (bst_lt s L1b L1b.length j hbs).1
    obtain rfl | rfl | rfl : j = 0 ∨ j = 1 ∨ j = 2 := by omega
    · exact step1b_0 s w hs hbs
    · exact step1b_1 s w hs hbs
    · exact step1b_2 s w hs hbs
end Go.Proofs.YtkcfgcdlnojaeaaGreatDoor.StemWalk5

namespace Go.Proofs.YtkcfgcdlnojaeaaGreatDoor.StemWalk6
set_option maxRecDepth 100000
open Go.RowKit Go.PlainAid StemPlain Base Vowels StemWalk StemWalk2 StemWalk3 StemWalk4 StemWalk5

theorem s4_ion {s : ByteArray} (h : bst s L4 L4.length = some 11) (h1 : sfx (cut s ⟨#[105, 111, 110]⟩) ⟨#[115]⟩ = false) (h2 : sfx (cut s ⟨#[105, 111, 110]⟩) ⟨#[116]⟩ = false) : s4 s = s := by
  unfold s4; rw [if_pos ⟨h, h1, h2⟩]
theorem s4_else {s : ByteArray} (h : ¬ (bst s L4 L4.length = some 11 ∧ sfx (cut s ⟨#[105, 111, 110]⟩) ⟨#[115]⟩ = false ∧ sfx (cut s ⟨#[105, 111, 110]⟩) ⟨#[116]⟩ = false)) : s4 s = rep s L4 1 := by
  unfold s4; exact if_neg h
theorem l4_other : ∀ j, j < 19 → j ≠ 11 → (L4[j]?.map fun p => p.1.data.toList == [105, 111, 110]) = some false := by decide +kernel
theorem toList_data (b : ByteArray) : b.toList = b.data.toList := by rw [ByteArray.toList_eq]

set_option maxHeartbeats 4000000 in
theorem step4_any (s : ByteArray) (w : World) (hs : s.size ≤ 281474976710656) :
    Calls Tryz.prog 232 #[.string s] w fun r w' => r = .returned (.string (s4 s)) ∧ Below w.heap.size w w' := by
  rcases hbs : bst s L4 L4.length with _ | j
  · have HN := Lib.hid (s4_else (s := s) (by rw [hbs]; simp))
    have HL := Lib.hid (lrest_none hbs)
    have HB := Lib.hid hbs
    clear hbs
    go_enter Tryz.func232, Tryz.ntmps232
    go_wp2_with (first
      | (go_at_call 242; refine (longest_any s L4 _ _ (w.heap.size + 1) _ hs (by decide) (by decide) (by simp) (slc_new w _ _)).mono ?_; rw [HL.out, HB.out]; simp only [atv]; rintro e w1 ⟨rfl, hb1⟩)
      | (go_at_call 243; refine (replace_any s L4 _ _ (w.heap.size + 1) 1 _ hs (by decide) (by decide) (by decide) (by have := hb1.size; simpa using this) ((slc_new w _ _).below hb1 (by simp))).mono ?_; rintro e w2 ⟨rfl, hb2⟩))
    go_ret
    exact ⟨ret_str HN.out.symm, by exact Base.bel⟩
  · obtain ⟨hjk, q, hq, hsq⟩ := bst_lt s L4 L4.length j hbs
    have hj : j < 19 := hjk
    have HL := Lib.hid (lrest_some hbs hq)
    have HB := Lib.hid hbs
    have hle := sfx_le hsq
    have hcs : (cut s q.1).size ≤ 281474976710656 := by rw [cut_size]; omega
    have d1 : decide ((0 : Int) ≤ 2 * (j : Int)) = true := by simp; omega
    have e2 : (2 : Int) * (j : Int) < 38 := by omega
    have e4 : ((2 : Int) * (j : Int)).toNat = 2 * j := by omega
    have hc1 := (pairCells_at L4 j q hq).1
    by_cases h11 : j = 11
    · subst h11
      have hq' : q = (⟨#[105, 111, 110]⟩, ⟨#[]⟩) := Option.some.inj (hq.symm.trans rfl)
      subst hq'
      have HL' : Hid (lrest s L4 = cut s ⟨#[105, 111, 110]⟩) := HL
      have hcs' : (cut s ⟨#[105, 111, 110]⟩).size ≤ 281474976710656 := hcs
      obtain ⟨r, hr⟩ : ∃ r, r = cut s ⟨#[105, 111, 110]⟩ := ⟨_, rfl⟩
      rw [← hr] at HL' hcs'
      clear HL hcs hq hsq hle
      rcases hs1 : sfx r ⟨#[115]⟩ with _ | _
      · rcases ht1 : sfx r ⟨#[116]⟩ with _ | _
        · have HN := Lib.hid (s4_ion hbs (by rw [← hr]; exact hs1) (by rw [← hr]; exact ht1))
          clear hbs hr
          go_enter Tryz.func232, Tryz.ntmps232
          go_wp2_with (first
            | (go_at_call 242; refine (longest_any s L4 _ _ (w.heap.size + 1) _ hs (by decide) (by decide) (by simp) (slc_new w _ _)).mono ?_; rw [HL'.out, HB.out]; simp only [atv]; rintro e w1 ⟨rfl, hb1⟩; have hcell : w1.cell? ⟨w.heap.size, 22, none⟩ = some (.string ⟨#[105, 111, 110]⟩) := (hb1.cell (p := ⟨w.heap.size, 22, none⟩) (by simp)).trans (by rw [World.cell?_alloc_mark, List.getElem?_toArray]; exact hc1))
            | (go_at_call 230; refine (hasSuffix_any _ _ _ hcs' (by decide)).mono ?_; rintro e w' ⟨rfl, rfl⟩)
            | (go_at_call 243; refine (replace_any s L4 _ _ (w.heap.size + 1) 1 _ hs (by decide) (by decide) (by decide) (by have := hb1.size; simpa using this) ((slc_new w _ _).below hb1 (by simp))).mono ?_; rintro e w2 ⟨rfl, hb2⟩))
          go_ret
          exact ⟨ret_str HN.out.symm, by exact Base.bel⟩
        · have HN := Lib.hid (s4_else (s := s) (by rw [← hr, ht1]; simp))
          clear hbs hr
          go_enter Tryz.func232, Tryz.ntmps232
          go_wp2_with (first
            | (go_at_call 242; refine (longest_any s L4 _ _ (w.heap.size + 1) _ hs (by decide) (by decide) (by simp) (slc_new w _ _)).mono ?_; rw [HL'.out, HB.out]; simp only [atv]; rintro e w1 ⟨rfl, hb1⟩; have hcell : w1.cell? ⟨w.heap.size, 22, none⟩ = some (.string ⟨#[105, 111, 110]⟩) := (hb1.cell (p := ⟨w.heap.size, 22, none⟩) (by simp)).trans (by rw [World.cell?_alloc_mark, List.getElem?_toArray]; exact hc1))
            | (go_at_call 230; refine (hasSuffix_any _ _ _ hcs' (by decide)).mono ?_; rintro e w' ⟨rfl, rfl⟩)
            | (go_at_call 243; refine (replace_any s L4 _ _ (w.heap.size + 1) 1 _ hs (by decide) (by decide) (by decide) (by have := hb1.size; simpa using this) ((slc_new w _ _).below hb1 (by simp))).mono ?_; rintro e w2 ⟨rfl, hb2⟩))
          go_ret
          exact ⟨ret_str HN.out.symm, by exact Base.bel⟩
      · have HN := Lib.hid (s4_else (s := s) (by rw [← hr, hs1]; simp))
        clear hbs hr
        go_enter Tryz.func232, Tryz.ntmps232
        go_wp2_with (first
          | (go_at_call 242; refine (longest_any s L4 _ _ (w.heap.size + 1) _ hs (by decide) (by decide) (by simp) (slc_new w _ _)).mono ?_; rw [HL'.out, HB.out]; simp only [atv]; rintro e w1 ⟨rfl, hb1⟩; have hcell : w1.cell? ⟨w.heap.size, 22, none⟩ = some (.string ⟨#[105, 111, 110]⟩) := (hb1.cell (p := ⟨w.heap.size, 22, none⟩) (by simp)).trans (by rw [World.cell?_alloc_mark, List.getElem?_toArray]; exact hc1))
          | (go_at_call 230; refine (hasSuffix_any _ _ _ hcs' (by decide)).mono ?_; rintro e w' ⟨rfl, rfl⟩)
          | (go_at_call 243; refine (replace_any s L4 _ _ (w.heap.size + 1) 1 _ hs (by decide) (by decide) (by decide) (by have := hb1.size; simpa using this) ((slc_new w _ _).below hb1 (by simp))).mono ?_; rintro e w2 ⟨rfl, hb2⟩))
        go_ret
        exact ⟨ret_str HN.out.symm, by exact Base.bel⟩
    · have HN := Lib.hid (s4_else (s := s) (by rw [hbs]; simp [h11]))
      have hion : (q.1.toList == [105, 111, 110]) = false := by
        have := l4_other j hj h11
        rw [hq] at this
        rw [toList_data]
        exact Option.some.inj this
      clear hbs hq hsq
      go_enter Tryz.func232, Tryz.ntmps232
      go_wp2_with (first
        | (go_at_call 242; refine (longest_any s L4 _ _ (w.heap.size + 1) _ hs (by decide) (by decide) (by simp) (slc_new w _ _)).mono ?_; rw [HL.out, HB.out]; simp only [atv]; rintro e w1 ⟨rfl, hb1⟩; have hcell : w1.cell? ⟨w.heap.size, 2 * j, none⟩ = some (.string q.1) := (hb1.cell (p := ⟨w.heap.size, 2 * j, none⟩) (by simp)).trans (by rw [World.cell?_alloc_mark, List.getElem?_toArray]; exact hc1))
        | (go_at_call 230; refine (hasSuffix_any _ _ _ hcs (by decide)).mono ?_; rintro e w' ⟨rfl, rfl⟩)
        | (go_at_call 243; refine (replace_any s L4 _ _ (w.heap.size + 1) 1 _ hs (by decide) (by decide) (by decide) (by have := hb1.size; simpa using this) ((slc_new w _ _).below hb1 (by simp))).mono ?_; rintro e w2 ⟨rfl, hb2⟩))
      go_ret
      exact ⟨ret_str HN.out.symm, by exact Base.bel⟩

end Go.Proofs.YtkcfgcdlnojaeaaGreatDoor.StemWalk6

namespace Go.Proofs.YtkcfgcdlnojaeaaGreatDoor.StemWalk7
set_option maxRecDepth 100000
open Go.RowKit Go.PlainAid StemPlain StemSize Base Vowels StemWalk StemWalk2 StemWalk3 StemWalk4 StemWalk5 StemWalk6

theorem s5b_no {s : ByteArray} (h : sfx s ⟨#[108, 108]⟩ = false) : s5b s = s := by unfold s5b; rw [h]; rfl
theorem s5b_low {s : ByteArray} (h : ¬ 1 < meas s) : s5b s = s := by unfold s5b; rw [decide_eq_false h, Bool.and_false]; rfl
theorem s5b_yes {s : ByteArray} (h : sfx s ⟨#[108, 108]⟩ = true) (h' : 1 < meas s) : s5b s = chop s := by unfold s5b; rw [h, decide_eq_true h']; rfl
theorem s5a_no {s : ByteArray} (h : sfx s ⟨#[101]⟩ = false) : s5a s = s := by unfold s5a; rw [h]; rfl
theorem s5a_high {s : ByteArray} (h : sfx s ⟨#[101]⟩ = true) (h' : 1 < meas (cut s ⟨#[101]⟩)) : s5a s = cut s ⟨#[101]⟩ := by unfold s5a; rw [h, decide_eq_true h']; rfl
theorem s5a_one {s : ByteArray} (h : sfx s ⟨#[101]⟩ = true) (h' : meas (cut s ⟨#[101]⟩) = 1) (h2 : shrt (cut s ⟨#[101]⟩) = false) : s5a s = cut s ⟨#[101]⟩ := by unfold s5a; rw [h, h', h2]; rfl
theorem s5a_short {s : ByteArray} (h' : meas (cut s ⟨#[101]⟩) = 1) (h2 : shrt (cut s ⟨#[101]⟩) = true) : s5a s = s := by unfold s5a; rw [h', h2]; simp
theorem s5a_zero {s : ByteArray} (h' : meas (cut s ⟨#[101]⟩) = 0) : s5a s = s := by unfold s5a; rw [h']; simp

set_option maxHeartbeats 8000000 in
theorem step5_any (s : ByteArray) (w : World) (hs : s.size ≤ 281474976710656) :
    Calls Tryz.prog 231 #[.string s] w fun r w' => r = .returned (.string (s5b (s5a s))) ∧ Below w.heap.size w w' := by
  have hcs : (cut s ⟨#[101]⟩).size ≤ 281474976710656 := by rw [cut_size]; omega
  obtain ⟨r, hr⟩ : ∃ r, r = cut s ⟨#[101]⟩ := ⟨_, rfl⟩
  have hms := meas_lt r
  have hmu := meas_lt s
  rw [← hr] at hcs
  rcases hx : sfx s ⟨#[101]⟩ with _ | _
  · have HX := Lib.hid hx
    have HA := Lib.hid (s5a_no hx)
    clear hx hr
    rcases hll : sfx s ⟨#[108, 108]⟩ with _ | _
    · have HBB := Lib.hid (s5b_no hll)
      go_enter Tryz.func231, Tryz.ntmps231
      go_wp2_with (first
        | (go_at_call 239; refine (cutSuffix_no s _ _ hs (by decide) HX.out).mono ?_; rintro e w' ⟨rfl, rfl⟩)
        | (go_at_call_of 240 (Value.string r); refine (measure_any r _ hcs).mono ?_; rintro e wA ⟨rfl, hA⟩)
        | (go_at_call_of 240 (Value.string s); refine (measure_any s _ hs).mono ?_; rintro e wB ⟨rfl, hB⟩)
        | (go_at_call 241; refine (endsShort_any r _ hcs).mono ?_; rintro e wC ⟨rfl, hC⟩)
        | (go_at_call 230; refine (hasSuffix_any _ _ _ (by assumption) (by decide)).mono ?_; rintro e w' ⟨rfl, rfl⟩))
      all_goals (try (exfalso; omega))
      all_goals
        go_ret
        refine ⟨ret_str ?_, by exact Base.bel⟩
        rw [HA.out, HBB.out]
    · have hle := sfx_le hll
      have hle2 : 2 ≤ s.size := hle
      by_cases hm2 : 1 < meas s
      · have HBB := Lib.hid (s5b_yes hll hm2)
        have hm2i : (1 : Int) < ((meas s : Nat) : Int) := by omega
        clear hm2
        go_enter Tryz.func231, Tryz.ntmps231
        go_wp2_with (first
          | (go_at_call 239; refine (cutSuffix_no s _ _ hs (by decide) HX.out).mono ?_; rintro e w' ⟨rfl, rfl⟩)
          | (go_at_call_of 240 (Value.string r); refine (measure_any r _ hcs).mono ?_; rintro e wA ⟨rfl, hA⟩)
          | (go_at_call_of 240 (Value.string s); refine (measure_any s _ hs).mono ?_; rintro e wB ⟨rfl, hB⟩)
          | (go_at_call 241; refine (endsShort_any r _ hcs).mono ?_; rintro e wC ⟨rfl, hC⟩)
          | (go_at_call 230; refine (hasSuffix_any _ _ _ (by assumption) (by decide)).mono ?_; rintro e w' ⟨rfl, rfl⟩))
        all_goals (try (exfalso; omega))
        all_goals
          go_ret
          refine ⟨ret_str ?_, by exact Base.bel⟩
          rw [HA.out, HBB.out]
          rfl
      · have HBB := Lib.hid (s5b_low hm2)
        have hm2i : ¬ (1 : Int) < ((meas s : Nat) : Int) := by omega
        clear hm2
        go_enter Tryz.func231, Tryz.ntmps231
        go_wp2_with (first
          | (go_at_call 239; refine (cutSuffix_no s _ _ hs (by decide) HX.out).mono ?_; rintro e w' ⟨rfl, rfl⟩)
          | (go_at_call_of 240 (Value.string r); refine (measure_any r _ hcs).mono ?_; rintro e wA ⟨rfl, hA⟩)
          | (go_at_call_of 240 (Value.string s); refine (measure_any s _ hs).mono ?_; rintro e wB ⟨rfl, hB⟩)
          | (go_at_call 241; refine (endsShort_any r _ hcs).mono ?_; rintro e wC ⟨rfl, hC⟩)
          | (go_at_call 230; refine (hasSuffix_any _ _ _ (by assumption) (by decide)).mono ?_; rintro e w' ⟨rfl, rfl⟩))
        all_goals (try (exfalso; omega))
        all_goals
          go_ret
          refine ⟨ret_str ?_, by exact Base.bel⟩
          rw [HA.out, HBB.out]
  · have HX := Lib.hid hx
    have HR := Lib.hid hr
    by_cases hm : 1 < meas r
    · have HA := Lib.hid (s5a_high hx (by rw [← hr]; exact hm))
      rw [← hr] at HA
      have hmi : (1 : Int) < ((meas r : Nat) : Int) := by omega
      clear hx hr hm
      rcases hll : sfx r ⟨#[108, 108]⟩ with _ | _
      · have HBB := Lib.hid (s5b_no hll)
        go_enter Tryz.func231, Tryz.ntmps231
        go_wp2_with (first
          | (go_at_call 239; refine (cutSuffix_yes s _ _ hs HX.out).mono ?_; rw [← HR.out]; rintro e w' ⟨rfl, rfl⟩)
          | (go_at_call_of 240 (Value.string r); refine (measure_any r _ hcs).mono ?_; rintro e wA ⟨rfl, hA⟩)
          | (go_at_call_of 240 (Value.string s); refine (measure_any s _ hs).mono ?_; rintro e wB ⟨rfl, hB⟩)
          | (go_at_call 241; refine (endsShort_any r _ hcs).mono ?_; rintro e wC ⟨rfl, hC⟩)
          | (go_at_call 230; refine (hasSuffix_any _ _ _ (by assumption) (by decide)).mono ?_; rintro e w' ⟨rfl, rfl⟩))
        all_goals (try (exfalso; omega))
        all_goals
          go_ret
          refine ⟨ret_str ?_, by exact Base.bel⟩
          rw [HA.out, HBB.out]
      · have hle := sfx_le hll
        have hle2 : 2 ≤ r.size := hle
        by_cases hm2 : 1 < meas r
        · have HBB := Lib.hid (s5b_yes hll hm2)
          have hm2i : (1 : Int) < ((meas r : Nat) : Int) := by omega
          clear hm2
          go_enter Tryz.func231, Tryz.ntmps231
          go_wp2_with (first
            | (go_at_call 239; refine (cutSuffix_yes s _ _ hs HX.out).mono ?_; rw [← HR.out]; rintro e w' ⟨rfl, rfl⟩)
            | (go_at_call_of 240 (Value.string r); refine (measure_any r _ hcs).mono ?_; rintro e wA ⟨rfl, hA⟩)
            | (go_at_call_of 240 (Value.string s); refine (measure_any s _ hs).mono ?_; rintro e wB ⟨rfl, hB⟩)
            | (go_at_call 241; refine (endsShort_any r _ hcs).mono ?_; rintro e wC ⟨rfl, hC⟩)
            | (go_at_call 230; refine (hasSuffix_any _ _ _ (by assumption) (by decide)).mono ?_; rintro e w' ⟨rfl, rfl⟩))
          all_goals (try (exfalso; omega))
          all_goals
            go_ret
            refine ⟨ret_str ?_, by exact Base.bel⟩
            rw [HA.out, HBB.out]
            rfl
        · have HBB := Lib.hid (s5b_low hm2)
          have hm2i : ¬ (1 : Int) < ((meas r : Nat) : Int) := by omega
          clear hm2
          go_enter Tryz.func231, Tryz.ntmps231
          go_wp2_with (first
            | (go_at_call 239; refine (cutSuffix_yes s _ _ hs HX.out).mono ?_; rw [← HR.out]; rintro e w' ⟨rfl, rfl⟩)
            | (go_at_call_of 240 (Value.string r); refine (measure_any r _ hcs).mono ?_; rintro e wA ⟨rfl, hA⟩)
            | (go_at_call_of 240 (Value.string s); refine (measure_any s _ hs).mono ?_; rintro e wB ⟨rfl, hB⟩)
            | (go_at_call 241; refine (endsShort_any r _ hcs).mono ?_; rintro e wC ⟨rfl, hC⟩)
            | (go_at_call 230; refine (hasSuffix_any _ _ _ (by assumption) (by decide)).mono ?_; rintro e w' ⟨rfl, rfl⟩))
          all_goals (try (exfalso; omega))
          all_goals
            go_ret
            refine ⟨ret_str ?_, by exact Base.bel⟩
            rw [HA.out, HBB.out]
    · by_cases hm1 : meas r = 1
      · have hmi : ¬ (1 : Int) < ((meas r : Nat) : Int) := by omega
        have hmj : (((meas r : Nat) : Int) == 1) = true := by simp; omega
        rcases hsh : shrt r with _ | _
        · have HA := Lib.hid (s5a_one hx (by rw [← hr]; exact hm1) (by rw [← hr]; exact hsh))
          rw [← hr] at HA
          clear hx hr hm hm1
          rcases hll : sfx r ⟨#[108, 108]⟩ with _ | _
          · have HBB := Lib.hid (s5b_no hll)
            go_enter Tryz.func231, Tryz.ntmps231
            go_wp2_with (first
              | (go_at_call 239; refine (cutSuffix_yes s _ _ hs HX.out).mono ?_; rw [← HR.out]; rintro e w' ⟨rfl, rfl⟩)
              | (go_at_call_of 240 (Value.string r); refine (measure_any r _ hcs).mono ?_; rintro e wA ⟨rfl, hA⟩)
              | (go_at_call_of 240 (Value.string s); refine (measure_any s _ hs).mono ?_; rintro e wB ⟨rfl, hB⟩)
              | (go_at_call 241; refine (endsShort_any r _ hcs).mono ?_; rintro e wC ⟨rfl, hC⟩)
              | (go_at_call 230; refine (hasSuffix_any _ _ _ (by assumption) (by decide)).mono ?_; rintro e w' ⟨rfl, rfl⟩))
            all_goals (try (exfalso; omega))
            all_goals
              go_ret
              refine ⟨ret_str ?_, by exact Base.bel⟩
              rw [HA.out, HBB.out]
          · have hle := sfx_le hll
            have hle2 : 2 ≤ r.size := hle
            by_cases hm2 : 1 < meas r
            · have HBB := Lib.hid (s5b_yes hll hm2)
              have hm2i : (1 : Int) < ((meas r : Nat) : Int) := by omega
              clear hm2
              go_enter Tryz.func231, Tryz.ntmps231
              go_wp2_with (first
                | (go_at_call 239; refine (cutSuffix_yes s _ _ hs HX.out).mono ?_; rw [← HR.out]; rintro e w' ⟨rfl, rfl⟩)
                | (go_at_call_of 240 (Value.string r); refine (measure_any r _ hcs).mono ?_; rintro e wA ⟨rfl, hA⟩)
                | (go_at_call_of 240 (Value.string s); refine (measure_any s _ hs).mono ?_; rintro e wB ⟨rfl, hB⟩)
                | (go_at_call 241; refine (endsShort_any r _ hcs).mono ?_; rintro e wC ⟨rfl, hC⟩)
                | (go_at_call 230; refine (hasSuffix_any _ _ _ (by assumption) (by decide)).mono ?_; rintro e w' ⟨rfl, rfl⟩))
              all_goals (try (exfalso; omega))
              all_goals
                go_ret
                refine ⟨ret_str ?_, by exact Base.bel⟩
                rw [HA.out, HBB.out]
                rfl
            · have HBB := Lib.hid (s5b_low hm2)
              have hm2i : ¬ (1 : Int) < ((meas r : Nat) : Int) := by omega
              clear hm2
              go_enter Tryz.func231, Tryz.ntmps231
              go_wp2_with (first
                | (go_at_call 239; refine (cutSuffix_yes s _ _ hs HX.out).mono ?_; rw [← HR.out]; rintro e w' ⟨rfl, rfl⟩)
                | (go_at_call_of 240 (Value.string r); refine (measure_any r _ hcs).mono ?_; rintro e wA ⟨rfl, hA⟩)
                | (go_at_call_of 240 (Value.string s); refine (measure_any s _ hs).mono ?_; rintro e wB ⟨rfl, hB⟩)
                | (go_at_call 241; refine (endsShort_any r _ hcs).mono ?_; rintro e wC ⟨rfl, hC⟩)
                | (go_at_call 230; refine (hasSuffix_any _ _ _ (by assumption) (by decide)).mono ?_; rintro e w' ⟨rfl, rfl⟩))
              all_goals (try (exfalso; omega))
              all_goals
                go_ret
                refine ⟨ret_str ?_, by exact Base.bel⟩
                rw [HA.out, HBB.out]
        · have HA := Lib.hid (s5a_short (s := s) (by rw [← hr]; exact hm1) (by rw [← hr]; exact hsh))
          clear hx hr hm hm1
          rcases hll : sfx s ⟨#[108, 108]⟩ with _ | _
          · have HBB := Lib.hid (s5b_no hll)
            go_enter Tryz.func231, Tryz.ntmps231
            go_wp2_with (first
              | (go_at_call 239; refine (cutSuffix_yes s _ _ hs HX.out).mono ?_; rw [← HR.out]; rintro e w' ⟨rfl, rfl⟩)
              | (go_at_call_of 240 (Value.string r); refine (measure_any r _ hcs).mono ?_; rintro e wA ⟨rfl, hA⟩)
              | (go_at_call_of 240 (Value.string s); refine (measure_any s _ hs).mono ?_; rintro e wB ⟨rfl, hB⟩)
              | (go_at_call 241; refine (endsShort_any r _ hcs).mono ?_; rintro e wC ⟨rfl, hC⟩)
              | (go_at_call 230; refine (hasSuffix_any _ _ _ (by assumption) (by decide)).mono ?_; rintro e w' ⟨rfl, rfl⟩))
            all_goals (try (exfalso; omega))
            all_goals
              go_ret
              refine ⟨ret_str ?_, by exact Base.bel⟩
              rw [HA.out, HBB.out]
          · have hle := sfx_le hll
            have hle2 : 2 ≤ s.size := hle
            by_cases hm2 : 1 < meas s
            · have HBB := Lib.hid (s5b_yes hll hm2)
              have hm2i : (1 : Int) < ((meas s : Nat) : Int) := by omega
              clear hm2
              go_enter Tryz.func231, Tryz.ntmps231
              go_wp2_with (first
                | (go_at_call 239; refine (cutSuffix_yes s _ _ hs HX.out).mono ?_; rw [← HR.out]; rintro e w' ⟨rfl, rfl⟩)
                | (go_at_call_of 240 (Value.string r); refine (measure_any r _ hcs).mono ?_; rintro e wA ⟨rfl, hA⟩)
                | (go_at_call_of 240 (Value.string s); refine (measure_any s _ hs).mono ?_; rintro e wB ⟨rfl, hB⟩)
                | (go_at_call 241; refine (endsShort_any r _ hcs).mono ?_; rintro e wC ⟨rfl, hC⟩)
                | (go_at_call 230; refine (hasSuffix_any _ _ _ (by assumption) (by decide)).mono ?_; rintro e w' ⟨rfl, rfl⟩))
              all_goals (try (exfalso; omega))
              all_goals
                go_ret
                refine ⟨ret_str ?_, by exact Base.bel⟩
                rw [HA.out, HBB.out]
                rfl
            · have HBB := Lib.hid (s5b_low hm2)
              have hm2i : ¬ (1 : Int) < ((meas s : Nat) : Int) := by omega
              clear hm2
              go_enter Tryz.func231, Tryz.ntmps231
              go_wp2_with (first
                | (go_at_call 239; refine (cutSuffix_yes s _ _ hs HX.out).mono ?_; rw [← HR.out]; rintro e w' ⟨rfl, rfl⟩)
                | (go_at_call_of 240 (Value.string r); refine (measure_any r _ hcs).mono ?_; rintro e wA ⟨rfl, hA⟩)
                | (go_at_call_of 240 (Value.string s); refine (measure_any s _ hs).mono ?_; rintro e wB ⟨rfl, hB⟩)
                | (go_at_call 241; refine (endsShort_any r _ hcs).mono ?_; rintro e wC ⟨rfl, hC⟩)
                | (go_at_call 230; refine (hasSuffix_any _ _ _ (by assumption) (by decide)).mono ?_; rintro e w' ⟨rfl, rfl⟩))
              all_goals (try (exfalso; omega))
              all_goals
                go_ret
                refine ⟨ret_str ?_, by exact Base.bel⟩
                rw [HA.out, HBB.out]
      · have HA := Lib.hid (s5a_zero (s := s) (by rw [← hr]; omega))
        have hmi : ¬ (1 : Int) < ((meas r : Nat) : Int) := by omega
        have hmj : (((meas r : Nat) : Int) == 1) = false := by simp; omega
        clear hx hr hm hm1
        rcases hll : sfx s ⟨#[108, 108]⟩ with _ | _
        · have HBB := Lib.hid (s5b_no hll)
          go_enter Tryz.func231, Tryz.ntmps231
          go_wp2_with (first
            | (go_at_call 239; refine (cutSuffix_yes s _ _ hs HX.out).mono ?_; rw [← HR.out]; rintro e w' ⟨rfl, rfl⟩)
            | (go_at_call_of 240 (Value.string r); refine (measure_any r _ hcs).mono ?_; rintro e wA ⟨rfl, hA⟩)
            | (go_at_call_of 240 (Value.string s); refine (measure_any s _ hs).mono ?_; rintro e wB ⟨rfl, hB⟩)
            | (go_at_call 241; refine (endsShort_any r _ hcs).mono ?_; rintro e wC ⟨rfl, hC⟩)
            | (go_at_call 230; refine (hasSuffix_any _ _ _ (by assumption) (by decide)).mono ?_; rintro e w' ⟨rfl, rfl⟩))
          all_goals (try (exfalso; omega))
          all_goals
            go_ret
            refine ⟨ret_str ?_, by exact Base.bel⟩
            rw [HA.out, HBB.out]
        · have hle := sfx_le hll
          have hle2 : 2 ≤ s.size := hle
          by_cases hm2 : 1 < meas s
          · have HBB := Lib.hid (s5b_yes hll hm2)
            have hm2i : (1 : Int) < ((meas s : Nat) : Int) := by omega
            clear hm2
            go_enter Tryz.func231, Tryz.ntmps231
            go_wp2_with (first
              | (go_at_call 239; refine (cutSuffix_yes s _ _ hs HX.out).mono ?_; rw [← HR.out]; rintro e w' ⟨rfl, rfl⟩)
              | (go_at_call_of 240 (Value.string r); refine (measure_any r _ hcs).mono ?_; rintro e wA ⟨rfl, hA⟩)
              | (go_at_call_of 240 (Value.string s); refine (measure_any s _ hs).mono ?_; rintro e wB ⟨rfl, hB⟩)
              | (go_at_call 241; refine (endsShort_any r _ hcs).mono ?_; rintro e wC ⟨rfl, hC⟩)
              | (go_at_call 230; refine (hasSuffix_any _ _ _ (by assumption) (by decide)).mono ?_; rintro e w' ⟨rfl, rfl⟩))
            all_goals (try (exfalso; omega))
            all_goals
              go_ret
              refine ⟨ret_str ?_, by exact Base.bel⟩
              rw [HA.out, HBB.out]
              rfl
          · have HBB := Lib.hid (s5b_low hm2)
            have hm2i : ¬ (1 : Int) < ((meas s : Nat) : Int) := by omega
            clear hm2
            go_enter Tryz.func231, Tryz.ntmps231
            go_wp2_with (first
              | (go_at_call 239; refine (cutSuffix_yes s _ _ hs HX.out).mono ?_; rw [← HR.out]; rintro e w' ⟨rfl, rfl⟩)
              | (go_at_call_of 240 (Value.string r); refine (measure_any r _ hcs).mono ?_; rintro e wA ⟨rfl, hA⟩)
              | (go_at_call_of 240 (Value.string s); refine (measure_any s _ hs).mono ?_; rintro e wB ⟨rfl, hB⟩)
              | (go_at_call 241; refine (endsShort_any r _ hcs).mono ?_; rintro e wC ⟨rfl, hC⟩)
              | (go_at_call 230; refine (hasSuffix_any _ _ _ (by assumption) (by decide)).mono ?_; rintro e w' ⟨rfl, rfl⟩))
            all_goals (try (exfalso; omega))
            all_goals
              go_ret
              refine ⟨ret_str ?_, by exact Base.bel⟩
              rw [HA.out, HBB.out]

end Go.Proofs.YtkcfgcdlnojaeaaGreatDoor.StemWalk7

namespace Go.Proofs.YtkcfgcdlnojaeaaGreatDoor.StemWalk8
set_option maxRecDepth 100000
open Go.RowKit Go.PlainAid StemPlain StemSize Base Vowels StemWalk StemWalk2 StemWalk3 StemWalk4 StemWalk5 StemWalk6 StemWalk7

theorem allSmall_all {s : ByteArray} : ∀ {n : Nat}, allSmall s n = true ↔ ∀ k, k < n → 97 ≤ bt s k ∧ bt s k ≤ 122 := by
  intro n
  induction n with
  | zero => simp [allSmall]
  | succ n ih =>
    unfold allSmall
    rw [Bool.and_eq_true, ih, decide_eq_true_iff]
    constructor
    · rintro ⟨h1, h2⟩ k hk
      by_cases e : k = n
      · subst e; exact h2
      · exact h1 k (by omega)
    · intro h
      exact ⟨fun k hk => h k (by omega), h n (by omega)⟩

theorem stem_small {s : ByteArray} (h : (poss s).size < 3) : stem s = poss s := by unfold stem; rw [if_pos h]
theorem stem_else {s : ByteArray} (h : ¬ (poss s).size < 3) (h2 : allSmall (poss s) (poss s).size = false) : stem s = poss s := by unfold stem; rw [if_neg h, if_neg (by rw [h2]; simp)]
theorem stem_all {s : ByteArray} (h : ¬ (poss s).size < 3) (h2 : allSmall (poss s) (poss s).size = true) : stem s = s5b (s5a (s4 (rep (rep (s1c (s1b (s1a (poss s)))) L2 0) L3 0))) := by
  unfold stem; rw [if_neg h, if_pos h2]
theorem poss_yes {s : ByteArray} (h : 2 < s.size) (h2 : sfx s ⟨#[39, 115]⟩ = true) : poss s = cut s ⟨#[39, 115]⟩ := by unfold poss; rw [decide_eq_true h, h2]; rfl
theorem poss_no {s : ByteArray} (h : 2 < s.size → sfx s ⟨#[39, 115]⟩ = false) : poss s = s := by
  unfold poss
  by_cases h3 : 2 < s.size
  · rw [h h3, Bool.and_false]; rfl
  · rw [decide_eq_false h3, Bool.false_and]; rfl

set_option maxHeartbeats 4000000 in
theorem stem_any (s : ByteArray) (w : World) (hs : s.size ≤ 140737488355327) :
    Calls Tryz.prog 229 #[.string s] w fun r w' => r = .returned (.string (stem s)) ∧ Below w.heap.size w w' := by
  have hs2 : s.size ≤ 281474976710656 := by omega
  have e0 := poss_size s
  have e1 := s1a_size (poss s)
  have e2 := s1b_size (s1a (poss s))
  have e3 := s1c_size (s1b (s1a (poss s)))
  have e4 : (rep (s1c (s1b (s1a (poss s)))) L2 0).size ≤ _ := rep_size (by decide)
  have e5 : (rep (rep (s1c (s1b (s1a (poss s)))) L2 0) L3 0).size ≤ _ := rep_size (by decide)
  have e6 := s4_size (rep (rep (s1c (s1b (s1a (poss s)))) L2 0) L3 0)
  have ways : (2 < s.size ∧ sfx s ⟨#[39, 115]⟩ = true) ∨ (2 < s.size ∧ sfx s ⟨#[39, 115]⟩ = false) ∨ ¬ 2 < s.size := by
    by_cases h : 2 < s.size
    · cases hx : sfx s ⟨#[39, 115]⟩
      · exact .inr (.inl ⟨h, rfl⟩)
      · exact .inl ⟨h, rfl⟩
    · exact .inr (.inr h)
  obtain ⟨u, hu⟩ : ∃ u, u = poss s := ⟨_, rfl⟩
  have HST : Hid ((u.size < 3 → stem s = u) ∧ (¬ u.size < 3 → allSmall u u.size = false → stem s = u) ∧ (¬ u.size < 3 → allSmall u u.size = true → stem s = s5b (s5a (s4 (rep (rep (s1c (s1b (s1a u))) L2 0) L3 0))))) :=
    Lib.hid (by rw [hu]; exact ⟨stem_small, stem_else, stem_all⟩)
  rw [← hu] at e0 e1 e2 e3 e4 e5 e6
  have hgb := get_bt u
  have huS : Hid (2 < s.size → sfx s ⟨#[39, 115]⟩ = true → u = cut s ⟨#[39, 115]⟩) := Lib.hid (fun h h' => hu.trans (poss_yes h h'))
  have huN : Hid ((2 < s.size → sfx s ⟨#[39, 115]⟩ = false) → u = s) := Lib.hid (fun h => hu.trans (poss_no h))
  clear hu
  have hub : u.size ≤ 140737488355327 := by omega
  have hu2 : u.size ≤ 281474976710656 := by omega
  have f1 : (s1a u).size ≤ 281474976710656 := by omega
  have f2 : (s1b (s1a u)).size ≤ 281474976710656 := by omega
  have f3 : (s1c (s1b (s1a u))).size ≤ 281474976710656 := by omega
  have f4 : (rep (s1c (s1b (s1a u))) L2 0).size ≤ 281474976710656 := by omega
  have f5 : (rep (rep (s1c (s1b (s1a u))) L2 0) L3 0).size ≤ 281474976710656 := by omega
  have f6 : (s4 (rep (rep (s1c (s1b (s1a u))) L2 0) L3 0)).size ≤ 281474976710656 := by omega
  have HF := Lib.hid (And.intro f1 (And.intro f2 (And.intro f3 (And.intro f4 (And.intro f5 f6)))))
  clear e1 e2 e3 e4 e5 e6 f1 f2 f3 f4 f5 f6
  rcases ways with ⟨h2, hx⟩ | ⟨h2, hx⟩ | h2
  · have hle := sfx_le hx
    have hex : s.extract 0 (s.size - 2) = u := (huS.out h2 hx).symm
    have hle2 : 2 ≤ s.size := by omega
    clear huS huN
    by_cases h3 : u.size < 3
    · go_enter Tryz.func229, Tryz.ntmps229
      go_wp2_with (go_at_call 230; refine (hasSuffix_any _ _ _ hs2 (by decide)).mono ?_; rintro e w' ⟨rfl, rfl⟩)
      go_ret
      first
        | exact ⟨ret_str (HST.out.1 h3).symm, Below.refl _ _⟩
        | exact ⟨ret_str (hex.trans (HST.out.1 h3).symm), Below.refl _ _⟩
    · go_enter Tryz.func229, Tryz.ntmps229
      go_wp2_with (go_at_call 230; refine (hasSuffix_any _ _ _ hs2 (by decide)).mono ?_; rintro e w' ⟨rfl, rfl⟩)
      go_loop [4] (fun i => ∃ k : Nat, k ≤ u.size ∧ i = .int .i64 k ∧ allSmall u k = true) (fun i => u.size - (intOf i).toNat)
      case atStart => exact ⟨0, Nat.zero_le _, rfl, rfl⟩
      case round =>
        obtain ⟨k, hk, rfl, hall⟩ := hrel
        have HALL := Lib.hid hall
        clear hall
        by_cases hlt : k < u.size
        · by_cases hin : 97 ≤ bt u k ∧ bt u k ≤ 122
          · have HS : Hid (allSmall u (k + 1) = true) := Lib.hid (by unfold allSmall; rw [HALL.out, decide_eq_true hin]; rfl)
            obtain ⟨i1, i2⟩ := hin
            go_wp2
            go_round
            case rel => exact ⟨k + 1, by omega, by go_num, HS.out⟩
            case measure => simp [intOf]; omega
          · have HS : Hid (allSmall u u.size = false) := Lib.hid (by
              cases hc : allSmall u u.size
              · rfl
              · exact absurd (allSmall_all.1 hc k hlt) hin)
            by_cases i1 : bt u k < 97
            · go_wp2
              go_ret
              exact ⟨ret_str (HST.out.2.1 h3 HS.out).symm, Below.refl _ _⟩
            · have i2 : 122 < bt u k := by omega
              go_wp2
              go_ret
              exact ⟨ret_str (HST.out.2.1 h3 HS.out).symm, Below.refl _ _⟩
        · obtain rfl : k = u.size := by omega
          have HS := Lib.hid (HST.out.2.2 h3 HALL.out)
          go_wp2_with (first
            | (go_at_call 237; refine (step1a_any _ _ hu2).mono ?_; rintro e w1 ⟨rfl, hb1⟩)
            | (go_at_call 236; refine (step1b_any _ _ HF.out.1).mono ?_; rintro e w2 ⟨rfl, hb2⟩)
            | (go_at_call 235; refine (step1c_any _ _ HF.out.2.1).mono ?_; rintro e w3 ⟨rfl, hb3⟩)
            | (go_at_call 234; refine (step2_any _ _ HF.out.2.2.1).mono ?_; rintro e w4 ⟨rfl, hb4⟩)
            | (go_at_call 233; refine (step3_any _ _ HF.out.2.2.2.1).mono ?_; rintro e w5 ⟨rfl, hb5⟩)
            | (go_at_call 232; refine (step4_any _ _ HF.out.2.2.2.2.1).mono ?_; rintro e w6 ⟨rfl, hb6⟩)
            | (go_at_call 231; refine (step5_any _ _ HF.out.2.2.2.2.2).mono ?_; rintro e w7 ⟨rfl, hb7⟩))
          go_ret
          exact ⟨ret_str HS.out.symm, bchain (bchain (bchain (bchain (bchain (bchain hb1 hb2) hb3) hb4) hb5) hb6) hb7⟩
  · have hus : s = u := (huN.out (fun _ => hx)).symm
    subst hus
    clear huS huN
    have h3 : ¬ s.size < 3 := by omega
    · go_enter Tryz.func229, Tryz.ntmps229
      go_wp2_with (go_at_call 230; refine (hasSuffix_any _ _ _ hs2 (by decide)).mono ?_; rintro e w' ⟨rfl, rfl⟩)
      go_loop [4] (fun i => ∃ k : Nat, k ≤ s.size ∧ i = .int .i64 k ∧ allSmall s k = true) (fun i => s.size - (intOf i).toNat)
      case atStart => exact ⟨0, Nat.zero_le _, rfl, rfl⟩
      case round =>
        obtain ⟨k, hk, rfl, hall⟩ := hrel
        have HALL := Lib.hid hall
        clear hall
        by_cases hlt : k < s.size
        · by_cases hin : 97 ≤ bt s k ∧ bt s k ≤ 122
          · have HS : Hid (allSmall s (k + 1) = true) := Lib.hid (by unfold allSmall; rw [HALL.out, decide_eq_true hin]; rfl)
            obtain ⟨i1, i2⟩ := hin
            go_wp2
            go_round
            case rel => exact ⟨k + 1, by omega, by go_num, HS.out⟩
            case measure => simp [intOf]; omega
          · have HS : Hid (allSmall s s.size = false) := Lib.hid (by
              cases hc : allSmall s s.size
              · rfl
              · exact absurd (allSmall_all.1 hc k hlt) hin)
            by_cases i1 : bt s k < 97
            · go_wp2
              go_ret
              exact ⟨ret_str (HST.out.2.1 h3 HS.out).symm, Below.refl _ _⟩
            · have i2 : 122 < bt s k := by omega
              go_wp2
              go_ret
              exact ⟨ret_str (HST.out.2.1 h3 HS.out).symm, Below.refl _ _⟩
        · obtain rfl : k = s.size := by omega
          have HS := Lib.hid (HST.out.2.2 h3 HALL.out)
          go_wp2_with (first
            | (go_at_call 237; refine (step1a_any _ _ hu2).mono ?_; rintro e w1 ⟨rfl, hb1⟩)
            | (go_at_call 236; refine (step1b_any _ _ HF.out.1).mono ?_; rintro e w2 ⟨rfl, hb2⟩)
            | (go_at_call 235; refine (step1c_any _ _ HF.out.2.1).mono ?_; rintro e w3 ⟨rfl, hb3⟩)
            | (go_at_call 234; refine (step2_any _ _ HF.out.2.2.1).mono ?_; rintro e w4 ⟨rfl, hb4⟩)
            | (go_at_call 233; refine (step3_any _ _ HF.out.2.2.2.1).mono ?_; rintro e w5 ⟨rfl, hb5⟩)
            | (go_at_call 232; refine (step4_any _ _ HF.out.2.2.2.2.1).mono ?_; rintro e w6 ⟨rfl, hb6⟩)
            | (go_at_call 231; refine (step5_any _ _ HF.out.2.2.2.2.2).mono ?_; rintro e w7 ⟨rfl, hb7⟩))
          go_ret
          exact ⟨ret_str HS.out.symm, bchain (bchain (bchain (bchain (bchain (bchain hb1 hb2) hb3) hb4) hb5) hb6) hb7⟩
  · have hus : s = u := (huN.out (fun h => absurd h h2)).symm
    subst hus
    clear huS huN
    have h3 : s.size < 3 := by omega
    · go_enter Tryz.func229, Tryz.ntmps229
      go_wp2_with (go_at_call 230; refine (hasSuffix_any _ _ _ hs2 (by decide)).mono ?_; rintro e w' ⟨rfl, rfl⟩)
      go_ret
      first
        | exact ⟨ret_str (HST.out.1 h3).symm, Below.refl _ _⟩
        | exact ⟨ret_str (hex.trans (HST.out.1 h3).symm), Below.refl _ _⟩
end Go.Proofs.YtkcfgcdlnojaeaaGreatDoor.StemWalk8
