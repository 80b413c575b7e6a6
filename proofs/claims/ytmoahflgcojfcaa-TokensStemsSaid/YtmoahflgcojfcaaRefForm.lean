/-
  The walks of the reference's form, measure, vowelled, double, short, ends.
-/
import Derived.Test.YtmoahflgcojfcaaVowels
import Derived.Test.YtmoahflgcojfcaaStemWalk2
namespace Go.Proofs.Ytmoahflgcojfcaa.RefForm
open Go.RowKit Go.PlainAid StemPlain Base Vowels StemWalk StemWalk2

theorem u8elem : Elem Try.prog 32 5 (.int .u8 0) 1 1 := .mk_ Try.underlying32 (by kernel_rfl) rfl (by decide)

def fbyte (s : ByteArray) (j : Nat) : UInt8 := if vow s j then 118 else 99
def flist (s : ByteArray) (k : Nat) : List UInt8 := (List.range k).map (fbyte s)
def formS (s : ByteArray) : ByteArray := ⟨(flist s s.size).toArray⟩
theorem flist_len (s : ByteArray) (k : Nat) : (flist s k).length = k := by simp [flist]
theorem formS_size (s : ByteArray) : (formS s).size = s.size := by
  show (flist s s.size).toArray.size = s.size
  simp [flist]
theorem bt_formS (s : ByteArray) (k : Nat) (h : k < s.size) : bt (formS s) k = if vow s k then 118 else 99 := by
  unfold bt
  rw [dif_pos (by rw [formS_size]; exact h)]
  show (((flist s s.size).toArray[k]'(by simpa [flist] using h)).toNat : Int) = _
  simp [flist, fbyte]
  split <;> rfl
theorem flist_succ (s : ByteArray) (k : Nat) (n : Int) (h : n = if vow s k then 118 else 99) : byteCells (flist s (k + 1)) = byteCells (flist s k) ++ [.int .u8 n] := by
  subst h
  unfold flist byteCells
  rw [List.range_succ, List.map_append, List.map_append]
  simp [fbyte]
  split <;> rfl
theorem flist_at (s : ByteArray) (k j : Nat) (h : j < k) : (byteCells (flist s k))[j]? = some (.int .u8 (if vow s j then 118 else 99)) := by
  unfold flist byteCells
  simp [h, fbyte]
  split <;> rfl

set_option maxHeartbeats 2000000 in
theorem form_any (s : ByteArray) (w : World) (hs : s.size ≤ 140737488355327) :
    Calls Try.prog 55 #[.string s] w fun e w' => e = .returned (.string (formS s)) ∧ Below w.heap.size w w' := by
  go_enter Try.func55, Try.ntmps55
  go_wp2
  go_loopw [3, 4] (fun v i wr => ∃ k : Nat, k ≤ s.size ∧ i = .int .i64 k ∧ wr.ownsRow w.heap.size 5 1 v k (byteCells (flist s k)) ∧ Below w.heap.size w wr) (fun _ i _ => s.size - (intOf i).toNat)
  case atStart => exact ⟨0, Nat.zero_le _, rfl, World.ownsRow_lit w #[] 0 (Nat.le_refl _) (by decide) rfl, (Below.refl _ _).alloc (Nat.le_refl _) _⟩
  case round =>
    obtain ⟨k, hk, rfl, hown, hbel⟩ := hrel
    have hsz := hbel.size
    obtain ⟨A, c, rfl⟩ := own_slice hown
    by_cases hlt : k < s.size
    · have hb := get_bt s
      have SUC := Lib.hid (flist_succ s k)
      rcases hav : av (bt s k) with _ | _
      · have hn : bt s k ≠ 97 ∧ bt s k ≠ 101 ∧ bt s k ≠ 105 ∧ bt s k ≠ 111 ∧ bt s k ≠ 117 := by unfold av at hav; simpa [and_assoc] using hav
        obtain ⟨n1, n2, n3, n4, n5⟩ := hn
        by_cases hy : bt s k = 121
        · have HY := Lib.hid hy
          have hy' : (bt s k == 121) = true := by simpa using hy
          clear hy
          by_cases h0 : k = 0
          · have HE : Hid ((99 : Int) = if vow s k then 118 else 99) := Lib.hid (by subst h0; rw [vow_y0 HY.out]; rfl)
            have hk0 : k ≤ 0 := by omega
            clear h0
            go_wp2_with (at_builtin; refine wpList_append1 rfl _ _ rfl u8elem hown rfl rfl rfl rfl (by omega) (by unfold maxLen; omega) hsz ?_)
            intro v' w1 hown' _ hbel'
            have hbel1 := hbel' _ hbel
            clear hbel' hown
            go_wp2
            go_roundw
            case rel => exact ⟨k + 1, by omega, by go_num, by rw [SUC.out _ HE.out]; exact hown', hbel1⟩
            case measure => simp [intOf]; omega
          · have hk0 : 0 < k := by omega
            obtain ⟨g, o, rfl, hg, hc⟩ := slc_own hown (by intro he; have := congrArg List.length he; simp [byteCells, flist] at this; omega)
            have c1 := hc (k - 1) _ (flist_at s k (k - 1) (by omega))
            have hvy := vow_y HY.out hk0
            rcases hv : vow s (k - 1) with _ | _
            · have HE : Hid ((118 : Int) = if vow s k then 118 else 99) := Lib.hid (by rw [hvy, hv]; rfl)
              rw [hv] at c1
              have c1' : wr.cell? ⟨g, o + (k - 1), none⟩ = some (.int .u8 99) := c1
              clear hvy hv hc c1
              go_wp2_with (at_builtin; refine wpList_append1 rfl _ _ rfl u8elem hown rfl rfl rfl rfl (by omega) (by unfold maxLen; omega) hsz ?_)
              intro v' w1 hown' _ hbel'
              have hbel1 := hbel' _ hbel
              clear hbel' hown
              go_wp2
              go_roundw
              case rel => exact ⟨k + 1, by omega, by go_num, by rw [SUC.out _ HE.out]; exact hown', hbel1⟩
              case measure => simp [intOf]; omega
            · have HE : Hid ((99 : Int) = if vow s k then 118 else 99) := Lib.hid (by rw [hvy, hv]; rfl)
              rw [hv] at c1
              have c1' : wr.cell? ⟨g, o + (k - 1), none⟩ = some (.int .u8 118) := c1
              clear hvy hv hc c1
              go_wp2_with (at_builtin; refine wpList_append1 rfl _ _ rfl u8elem hown rfl rfl rfl rfl (by omega) (by unfold maxLen; omega) hsz ?_)
              intro v' w1 hown' _ hbel'
              have hbel1 := hbel' _ hbel
              clear hbel' hown
              go_wp2
              go_roundw
              case rel => exact ⟨k + 1, by omega, by go_num, by rw [SUC.out _ HE.out]; exact hown', hbel1⟩
              case measure => simp [intOf]; omega
        · have HE : Hid ((99 : Int) = if vow s k then 118 else 99) := Lib.hid (by rw [vow_no hav hy]; rfl)
          have hn6 : (bt s k == 121) = false := by simpa using hy
          go_wp2_with (at_builtin; refine wpList_append1 rfl _ _ rfl u8elem hown rfl rfl rfl rfl (by omega) (by unfold maxLen; omega) hsz ?_)
          intro v' w1 hown' _ hbel'
          have hbel1 := hbel' _ hbel
          clear hbel' hown
          go_wp2
          go_roundw
          case rel => exact ⟨k + 1, by omega, by go_num, by rw [SUC.out _ HE.out]; exact hown', hbel1⟩
          case measure => simp [intOf]; omega
      · have HE : Hid ((118 : Int) = if vow s k then 118 else 99) := Lib.hid (by rw [vow_av hav]; rfl)
        have hn : bt s k = 97 ∨ bt s k = 101 ∨ bt s k = 105 ∨ bt s k = 111 ∨ bt s k = 117 := by unfold av at hav; simpa [or_assoc] using hav
        clear hav
        go_wp2_with (at_builtin; refine wpList_append1 rfl _ _ rfl u8elem hown rfl rfl rfl rfl (by omega) (by unfold maxLen; omega) hsz ?_)
        all_goals (try (exfalso; omega))
        all_goals
          intro v' w1 hown' _ hbel'
          have hbel1 := hbel' _ hbel
          clear hbel'
          go_wp2
          go_roundw
          case rel => exact ⟨k + 1, by omega, by go_num, by rw [SUC.out _ HE.out]; exact hown', hbel1⟩
          case measure => simp [intOf]; omega
    · obtain rfl : k = s.size := by omega
      have hbk := run_string_own (P := Try.prog) Try.underlying32 Try.underlying5 Try.underlying9 hown
      go_wp2
      go_ret
      exact ⟨rfl, hbel⟩

set_option maxHeartbeats 2000000 in
theorem measure_ref (s : ByteArray) (w : World) (hs : s.size ≤ 140737488355327) :
    Calls Try.prog 47 #[.string s] w fun e w' => e = .returned (.int .i64 (meas s)) ∧ Below w.heap.size w w' := by
  go_enter Try.func47, Try.ntmps47
  go_wp2_with (go_at_call 55; refine (form_any _ _ hs).mono ?_; rintro e w1 ⟨rfl, hb1⟩)
  obtain ⟨f, hf⟩ : ∃ f, f = formS s := ⟨_, rfl⟩
  have hfs : f.size = s.size := by rw [hf, formS_size]
  have hfb : ∀ k, k < s.size → bt f k = if vow s k then 118 else 99 := fun k hk => by rw [hf]; exact bt_formS s k hk
  rw [← hf]
  clear hf
  have HFS := Lib.hid hfs
  have HFB := Lib.hid hfb
  clear hfs hfb
  have hgb := get_bt f
  have hfm : f.size ≤ 140737488355327 := by rw [HFS.out]; exact hs
  go_loop [4, 5] (fun n i => ∃ k : Nat, 1 ≤ k ∧ (k ≤ s.size ∨ k = 1) ∧ i = .int .i64 k ∧ n = .int .i64 (msTo s (k - 1))) (fun _ i => s.size - (intOf i).toNat)
  case atStart => exact ⟨1, by omega, .inr rfl, rfl, rfl⟩
  case round =>
    obtain ⟨k, hk, hk2, rfl, rfl⟩ := hrel
    have hsf : Hid (f.size = s.size) := HFS
    by_cases hlt : k < s.size
    · have hlf : k < f.size := by rw [HFS.out]; exact hlt
      have c1 := HFB.out (k - 1) (by omega)
      have c2 := HFB.out k hlt
      have hm := msTo_le s (k - 1)
      have HM := Lib.hid (meas_step (s := s) hk)
      rcases v1 : vow s (k - 1) with _ | _ <;> rcases v2 : vow s k with _ | _ <;> rw [v1] at c1 <;> rw [v2] at c2 <;> simp only [Bool.false_eq_true, if_true, if_false] at c1 c2 <;> have H1 := Lib.hid v1 <;> have H2 := Lib.hid v2 <;> clear v1 v2
      all_goals
        go_wp2
        go_round
        case rel => exact ⟨k + 1, by omega, .inl (by omega), by go_num, by rw [show k + 1 - 1 = k by omega, HM.out, H1.out, H2.out]; first | rfl | go_num⟩
        case measure => simp [intOf]; omega
    · have hlf : ¬ k < f.size := by rw [HFS.out]; exact hlt
      go_wp2
      go_ret
      refine ⟨?_, hb1⟩
      have e : s.size - 1 = k - 1 := by omega
      unfold meas
      rw [e]
      rfl

set_option maxHeartbeats 2000000 in
theorem vowelled_any (s : ByteArray) (w : World) (hs : s.size ≤ 140737488355327) :
    Calls Try.prog 48 #[.string s] w fun e w' => e = .returned (.bool (hasV s)) ∧ Below w.heap.size w w' := by
  go_enter Try.func48, Try.ntmps48
  go_wp2_with (go_at_call 55; refine (form_any _ _ hs).mono ?_; rintro e w1 ⟨rfl, hb1⟩)
  obtain ⟨f, hf⟩ : ∃ f, f = formS s := ⟨_, rfl⟩
  have HFS : Hid (f.size = s.size) := Lib.hid (by rw [hf, formS_size])
  have HFB : Hid (∀ k, k < s.size → bt f k = if vow s k then 118 else 99) := Lib.hid (fun k hk => by rw [hf]; exact bt_formS s k hk)
  rw [← hf]
  clear hf
  have hgb := get_bt f
  have hfm : f.size ≤ 140737488355327 := by rw [HFS.out]; exact hs
  go_loop [4] (fun i => ∃ k : Nat, k ≤ s.size ∧ i = .int .i64 k ∧ hasTo s k = false) (fun i => s.size - (intOf i).toNat)
  case atStart => exact ⟨0, by omega, rfl, rfl⟩
  case round =>
    obtain ⟨k, hk, rfl, hno⟩ := hrel
    have HNO := Lib.hid hno
    clear hno
    by_cases hlt : k < s.size
    · have hlf : k < f.size := by rw [HFS.out]; exact hlt
      have c2 := HFB.out k hlt
      rcases v2 : vow s k with _ | _ <;> rw [v2] at c2 <;> simp only [Bool.false_eq_true, if_true, if_false] at c2 <;> have H2 := Lib.hid v2 <;> clear v2
      · go_wp2
        go_round
        case rel => exact ⟨k + 1, by omega, by go_num, by unfold hasTo; rw [HNO.out, H2.out]; rfl⟩
        case measure => simp [intOf]; omega
      · go_wp2
        go_ret
        exact ⟨by rw [show hasV s = true from hasTo_true hlt H2.out]; rfl, hb1⟩
    · obtain rfl : k = s.size := by omega
      have hlf : ¬ s.size < f.size := by rw [HFS.out]; omega
      go_wp2
      go_ret
      exact ⟨by rw [show hasV s = false from HNO.out]; rfl, hb1⟩

set_option maxHeartbeats 1000000 in
theorem ends_any (s e : ByteArray) (w : World) (hs : s.size ≤ 281474976710656) (he : e.size ≤ 281474976710656) :
    Calls Try.prog 30 #[.string s, .string e] w fun r w' => r = .returned (.bool (sfx s e)) ∧ w' = w := by
  by_cases h : e.size ≤ s.size
  · have HL := Lib.hid (sfx_long h)
    go_enter Try.func30, Try.ntmps30
    go_wp2
    go_ret
    exact ⟨ret_bool HL.out, rfl⟩
  · have hs := Lib.hid (sfx_short h)
    go_enter Try.func30, Try.ntmps30
    go_wp2
    go_ret
    exact ⟨ret_bool hs.out.symm, rfl⟩
theorem ends_val {s e : ByteArray} {b : Bool} (h : sfx s e = b) (w : World) (hs : s.size ≤ 281474976710656) (he : e.size ≤ 281474976710656) :
    Calls Try.prog 30 #[.string s, .string e] w fun r w' => r = .returned (.bool b) ∧ w' = w := by
  subst h; exact ends_any s e w hs he
end Go.Proofs.Ytmoahflgcojfcaa.RefForm
