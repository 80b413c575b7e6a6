/-
  The walks of the reference's form, measure, vowelled, double, short, ends.
  The walks of the reference's double and short.
  The walk of the reference's longest.
  The walk of the reference's mended.
  The walk of the reference's first.
  The walk of the reference's middle.
  The walk of the reference's last.
-/
import Derived.Test.YtmoahflgcojfcaaDoorDStems
import Derived.RegionTactic
import Derived.Test.YtmoahflgcojfcaaDoorDPlains
import Derived.Deep.DeepCutAuto
import Derived.Deep.RegionWith
namespace Go.Proofs.YtmoahflgcojfcaaDoor.RefForm
set_option maxRecDepth 100000
open Go.RowKit Go.PlainAid StemPlain Base Vowels StemWalk StemWalk2

theorem u8elem : Elem Tryd.prog 63 5 (.int .u8 0) 1 1 := .mk_ Tryd.underlying63 (by kernel_rfl) rfl (by decide)

def fbyte (s : ByteArray) (j : Nat) : UInt8 := if vow s j then 118 else 99
def flist (s : ByteArray) (k : Nat) : List UInt8 := (List.range k).map (fbyte s)
def formS (s : ByteArray) : ByteArray := ⟨(flist s s.size).toArray⟩
theorem flist_len (s : ByteArray) (k : Nat) : (flist s k).length = k := by simp [flist]
theorem formS_size (s : ByteArray) : (formS s).size = s.size := by
  show (flist s s.size).toArray.size = s.size
  simp [flist]
theorem bt_formS (s : ByteArray) (k : Nat) (h : k < s.size) : bt (formS s) k = if vow s k then 118 else 99 := by
  unfold bt
  rw [dif_pos (by rw [formS_size]; exact h)]
  show (((flist s s.size).toArray[k]'(by simpa [flist] using h)).toNat : Int) = _
  simp [flist, fbyte]
  split <;> rfl
theorem flist_succ (s : ByteArray) (k : Nat) (n : Int) (h : n = if vow s k then 118 else 99) : byteCells (flist s (k + 1)) = byteCells (flist s k) ++ [.int .u8 n] := by
  subst h
  unfold flist byteCells
  rw [List.range_succ, List.map_append, List.map_append]
  simp [fbyte]
  split <;> rfl
theorem flist_at (s : ByteArray) (k j : Nat) (h : j < k) : (byteCells (flist s k))[j]? = some (.int .u8 (if vow s j then 118 else 99)) := by
  unfold flist byteCells
  simp [h, fbyte]
  split <;> rfl

set_option maxHeartbeats 2000000 in
theorem form_any (s : ByteArray) (w : World) (hs : s.size ≤ 140737488355327) :
    Calls Tryd.prog 106 #[.string s] w fun e w' => e = .returned (.string (formS s)) ∧ Below w.heap.size w w' := by
  go_enter Tryd.func106, Tryd.ntmps106
  go_wp2
  go_loopw [3, 4] (fun v i wr => ∃ k : Nat, k ≤ s.size ∧ i = .int .i64 k ∧ wr.ownsRow w.heap.size 5 1 v k (byteCells (flist s k)) ∧ Below w.heap.size w wr) (fun _ i _ => s.size - (intOf i).toNat)
  case atStart => exact ⟨0, Nat.zero_le _, rfl, World.ownsRow_lit w #[] 0 (Nat.le_refl _) (by decide) rfl, (Below.refl _ _).alloc (Nat.le_refl _) _⟩
  case round =>
    obtain ⟨k, hk, rfl, hown, hbel⟩ := hrel
    have hsz := hbel.size
    obtain ⟨A, c, rfl⟩ := own_slice hown
    by_cases hlt : k < s.size
    · have hb := get_bt s
      have SUC := Lib.hid (flist_succ s k)
      rcases hav : av (bt s k) with _ | _
      · have hn : bt s k ≠ 97 ∧ bt s k ≠ 101 ∧ bt s k ≠ 105 ∧ bt s k ≠ 111 ∧ bt s k ≠ 117 := by unfold av at hav; simpa [and_assoc] using hav
        obtain ⟨n1, n2, n3, n4, n5⟩ := hn
        by_cases hy : bt s k = 121
        · have HY := Lib.hid hy
          have hy' : (bt s k == 121) = true := by simpa using hy
          clear hy
          by_cases h0 : k = 0
          · have HE : Hid ((99 : Int) = if vow s k then 118 else 99) := Lib.hid (by subst h0; rw [vow_y0 HY.out]; rfl)
            have hk0 : k ≤ 0 := by omega
            clear h0
            go_wp2_with (at_builtin; refine wpList_append1 rfl _ _ rfl u8elem hown rfl rfl rfl rfl (by omega) (by unfold maxLen; omega) hsz ?_)
            intro v' w1 hown' _ hbel'
            have hbel1 := hbel' _ hbel
            clear hbel' hown
            go_wp2
            go_roundw
            case rel => exact ⟨k + 1, by omega, by go_num, by rw [SUC.out _ HE.out]; exact hown', hbel1⟩
            case measure => simp [intOf]; omega
          · have hk0 : 0 < k := by omega
            obtain ⟨g, o, rfl, hg, hc⟩ := slc_own hown (by intro he; have := congrArg List.length he; simp [byteCells, flist] at this; omega)
            have c1 := hc (k - 1) _ (flist_at s k (k - 1) (by omega))
            have hvy := vow_y HY.out hk0
            rcases hv : vow s (k - 1) with _ | _
            · have HE : Hid ((118 : Int) = if vow s k then 118 else 99) := Lib.hid (by rw [hvy, hv]; rfl)
              rw [hv] at c1
              have c1' : wr.cell? ⟨g, o + (k - 1), none⟩ = some (.int .u8 99) := c1
              clear hvy hv hc c1
              go_wp2_with (at_builtin; refine wpList_append1 rfl _ _ rfl u8elem hown rfl rfl rfl rfl (by omega) (by unfold maxLen; omega) hsz ?_)
              intro v' w1 hown' _ hbel'
              have hbel1 := hbel' _ hbel
              clear hbel' hown
              go_wp2
              go_roundw
              case rel => exact ⟨k + 1, by omega, by go_num, by rw [SUC.out _ HE.out]; exact hown', hbel1⟩
              case measure => simp [intOf]; omega
            · have HE : Hid ((99 : Int) = if vow s k then 118 else 99) := Lib.hid (by rw [hvy, hv]; rfl)
              rw [hv] at c1
              have c1' : wr.cell? ⟨g, o + (k - 1), none⟩ = some (.int .u8 118) := c1
              clear hvy hv hc c1
              go_wp2_with (at_builtin; refine wpList_append1 rfl _ _ rfl u8elem hown rfl rfl rfl rfl (by omega) (by unfold maxLen; omega) hsz ?_)
              intro v' w1 hown' _ hbel'
              have hbel1 := hbel' _ hbel
              clear hbel' hown
              go_wp2
              go_roundw
              case rel => exact ⟨k + 1, by omega, by go_num, by rw [SUC.out _ HE.out]; exact hown', hbel1⟩
              case measure => simp [intOf]; omega
        · have HE : Hid ((99 : Int) = if vow s k then 118 else 99) := Lib.hid (by rw [vow_no hav hy]; rfl)
          have hn6 : (bt s k == 121) = false := by simpa using hy
          go_wp2_with (at_builtin; refine wpList_append1 rfl _ _ rfl u8elem hown rfl rfl rfl rfl (by omega) (by unfold maxLen; omega) hsz ?_)
          intro v' w1 hown' _ hbel'
          have hbel1 := hbel' _ hbel
          clear hbel' hown
          go_wp2
          go_roundw
          case rel => exact ⟨k + 1, by omega, by go_num, by rw [SUC.out _ HE.out]; exact hown', hbel1⟩
          case measure => simp [intOf]; omega
      · have HE : Hid ((118 : Int) = if vow s k then 118 else 99) := Lib.hid (by rw [vow_av hav]; rfl)
        have hn : bt s k = 97 ∨ bt s k = 101 ∨ bt s k = 105 ∨ bt s k = 111 ∨ bt s k = 117 := by unfold av at hav; simpa [or_assoc] using hav
        clear hav
        go_wp2_with (at_builtin; refine wpList_append1 rfl _ _ rfl u8elem hown rfl rfl rfl rfl (by omega) (by unfold maxLen; omega) hsz ?_)
        all_goals (try (exfalso; omega))
        all_goals
          intro v' w1 hown' _ hbel'
          have hbel1 := hbel' _ hbel
          clear hbel'
          go_wp2
          go_roundw
          case rel => exact ⟨k + 1, by omega, by go_num, by rw [SUC.out _ HE.out]; exact hown', hbel1⟩
          case measure => simp [intOf]; omega
    · obtain rfl : k = s.size := by omega
      have hbk := run_string_own (P := Tryd.prog) Tryd.underlying63 Tryd.underlying5 Tryd.underlying9 hown
      go_wp2
      go_ret
      exact ⟨rfl, hbel⟩

set_option maxHeartbeats 2000000 in
theorem measure_ref (s : ByteArray) (w : World) (hs : s.size ≤ 140737488355327) :
    Calls Tryd.prog 100 #[.string s] w fun e w' => e = .returned (.int .i64 (meas s)) ∧ Below w.heap.size w w' := by
  go_enter Tryd.func100, Tryd.ntmps100
  go_wp2_with (go_at_call 106; refine (form_any _ _ hs).mono ?_; rintro e w1 ⟨rfl, hb1⟩)
  obtain ⟨f, hf⟩ : ∃ f, f = formS s := ⟨_, rfl⟩
  have hfs : f.size = s.size := by rw [hf, formS_size]
  have hfb : ∀ k, k < s.size → bt f k = if vow s k then 118 else 99 := fun k hk => by rw [hf]; exact bt_formS s k hk
  rw [← hf]
  clear hf
  have HFS := Lib.hid hfs
  have HFB := Lib.hid hfb
  clear hfs hfb
  have hgb := get_bt f
  have hfm : f.size ≤ 140737488355327 := by rw [HFS.out]; exact hs
  go_loop [4, 5] (fun n i => ∃ k : Nat, 1 ≤ k ∧ (k ≤ s.size ∨ k = 1) ∧ i = .int .i64 k ∧ n = .int .i64 (msTo s (k - 1))) (fun _ i => s.size - (intOf i).toNat)
  case atStart => exact ⟨1, by omega, .inr rfl, rfl, rfl⟩
  case round =>
    obtain ⟨k, hk, hk2, rfl, rfl⟩ := hrel
    have hsf : Hid (f.size = s.size) := HFS
    by_cases hlt : k < s.size
    · have hlf : k < f.size := by rw [HFS.out]; exact hlt
      have c1 := HFB.out (k - 1) (by omega)
      have c2 := HFB.out k hlt
      have hm := msTo_le s (k - 1)
      have HM := Lib.hid (meas_step (s := s) hk)
      rcases v1 : vow s (k - 1) with _ | _ <;> rcases v2 : vow s k with _ | _ <;> rw [v1] at c1 <;> rw [v2] at c2 <;> simp only [Bool.false_eq_true, if_true, if_false] at c1 c2 <;> have H1 := Lib.hid v1 <;> have H2 := Lib.hid v2 <;> clear v1 v2
      all_goals
        go_wp2
        go_round
        case rel => exact ⟨k + 1, by omega, .inl (by omega), by go_num, by rw [show k + 1 - 1 = k by omega, HM.out, H1.out, H2.out]; first | rfl | go_num⟩
        case measure => simp [intOf]; omega
    · have hlf : ¬ k < f.size := by rw [HFS.out]; exact hlt
      go_wp2
      go_ret
      refine ⟨?_, hb1⟩
      have e : s.size - 1 = k - 1 := by omega
      unfold meas
      rw [e]
      rfl

set_option maxHeartbeats 2000000 in
theorem vowelled_any (s : ByteArray) (w : World) (hs : s.size ≤ 140737488355327) :
    Calls Tryd.prog 101 #[.string s] w fun e w' => e = .returned (.bool (hasV s)) ∧ Below w.heap.size w w' := by
  go_enter Tryd.func101, Tryd.ntmps101
  go_wp2_with (go_at_call 106; refine (form_any _ _ hs).mono ?_; rintro e w1 ⟨rfl, hb1⟩)
  obtain ⟨f, hf⟩ : ∃ f, f = formS s := ⟨_, rfl⟩
  have HFS : Hid (f.size = s.size) := Lib.hid (by rw [hf, formS_size])
  have HFB : Hid (∀ k, k < s.size → bt f k = if vow s k then 118 else 99) := Lib.hid (fun k hk => by rw [hf]; exact bt_formS s k hk)
  rw [← hf]
  clear hf
  have hgb := get_bt f
  have hfm : f.size ≤ 140737488355327 := by rw [HFS.out]; exact hs
  go_loop [4] (fun i => ∃ k : Nat, k ≤ s.size ∧ i = .int .i64 k ∧ hasTo s k = false) (fun i => s.size - (intOf i).toNat)
  case atStart => exact ⟨0, by omega, rfl, rfl⟩
  case round =>
    obtain ⟨k, hk, rfl, hno⟩ := hrel
    have HNO := Lib.hid hno
    clear hno
    by_cases hlt : k < s.size
    · have hlf : k < f.size := by rw [HFS.out]; exact hlt
      have c2 := HFB.out k hlt
      rcases v2 : vow s k with _ | _ <;> rw [v2] at c2 <;> simp only [Bool.false_eq_true, if_true, if_false] at c2 <;> have H2 := Lib.hid v2 <;> clear v2
      · go_wp2
        go_round
        case rel => exact ⟨k + 1, by omega, by go_num, by unfold hasTo; rw [HNO.out, H2.out]; rfl⟩
        case measure => simp [intOf]; omega
      · go_wp2
        go_ret
        exact ⟨by rw [show hasV s = true from hasTo_true hlt H2.out]; rfl, hb1⟩
    · obtain rfl : k = s.size := by omega
      have hlf : ¬ s.size < f.size := by rw [HFS.out]; omega
      go_wp2
      go_ret
      exact ⟨by rw [show hasV s = false from HNO.out]; rfl, hb1⟩

set_option maxHeartbeats 1000000 in
theorem ends_any (s e : ByteArray) (w : World) (hs : s.size ≤ 281474976710656) (he : e.size ≤ 281474976710656) :
    Calls Tryd.prog 85 #[.string s, .string e] w fun r w' => r = .returned (.bool (sfx s e)) ∧ w' = w := by
  by_cases h : e.size ≤ s.size
  · have HL := Lib.hid (sfx_long h)
    go_enter Tryd.func85, Tryd.ntmps85
    go_wp2
    go_ret
    exact ⟨ret_bool HL.out, rfl⟩
  · have hs := Lib.hid (sfx_short h)
    go_enter Tryd.func85, Tryd.ntmps85
    go_wp2
    go_ret
    exact ⟨ret_bool hs.out.symm, rfl⟩
theorem ends_val {s e : ByteArray} {b : Bool} (h : sfx s e = b) (w : World) (hs : s.size ≤ 281474976710656) (he : e.size ≤ 281474976710656) :
    Calls Tryd.prog 85 #[.string s, .string e] w fun r w' => r = .returned (.bool b) ∧ w' = w := by
  subst h; exact ends_any s e w hs he
end Go.Proofs.YtmoahflgcojfcaaDoor.RefForm

namespace Go.Proofs.YtmoahflgcojfcaaDoor.RefShort
set_option maxRecDepth 100000
open Go.RowKit Go.PlainAid StemPlain Base Vowels StemWalk StemWalk2 RefForm

set_option maxHeartbeats 1000000 in
theorem double_any (s : ByteArray) (w : World) (hs : s.size ≤ 140737488355327) :
    Calls Tryd.prog 107 #[.string s] w fun r w' => r = .returned (.bool (dbl s)) ∧ Below w.heap.size w w' := by
  have hb := get_bt s
  by_cases h2 : 2 ≤ s.size
  · have d2 : decide ((1 : Int) < (s.size : Int)) = true := by simp; omega
    have x1 : IntKind.i64.wrap ((s.size : Int) - 1) = (s.size : Int) - 1 := IntWalk.i64_in _ (by omega)
    have x2 : IntKind.i64.wrap ((s.size : Int) - 2) = (s.size : Int) - 2 := IntWalk.i64_in _ (by omega)
    have j1 : (1 : Int) ≤ (s.size : Int) := by omega
    have j2 : (2 : Int) ≤ (s.size : Int) := by omega
    have y1 : ((s.size : Int) - 1).toNat = s.size - 1 := by omega
    have y2 : ((s.size : Int) - 2).toNat = s.size - 2 := by omega
    by_cases he : bt s (s.size - 1) = bt s (s.size - 2)
    · have hd : dbl s = !vow s (s.size - 1) := by unfold dbl; simp [h2, he]
      have HD := Lib.hid hd
      have he' : (bt s (s.size - 1) == bt s (s.size - 2)) = true := by simpa using he
      have hfs := formS_size s
      have hfb := bt_formS s (s.size - 1) (by omega)
      have hgf := get_bt (formS s)
      clear hd he
      rcases v : vow s (s.size - 1) with _ | _ <;> rw [v] at hfb <;> simp only [Bool.false_eq_true, if_true, if_false] at hfb <;> have HV := Lib.hid v <;> clear v
      all_goals
        go_enter Tryd.func107, Tryd.ntmps107
        go_wp2_with fail
        refine wp_region_bw w.heap.size (by kernel_rfl) (by kernel_rfl) ?_
        repeat (go_big_quiet_step ((go_at_call 106; exact calls_bw (Nat.le_refl _) (form_any _ _ hs))))
        refine wpQuiet_nil ?_
        intro _ hw'
        obtain ⟨⟨wq, hbq⟩, hw''⟩ := hw'
        subst hw''
        go_wp2
        go_ret
        exact ⟨ret_bool (by rw [HD.out, HV.out]; rfl), hbq⟩
    · have HD := Lib.hid (show dbl s = false by unfold dbl; simp [he])
      have he' : (bt s (s.size - 1) == bt s (s.size - 2)) = false := by simpa using he
      clear he
      go_enter Tryd.func107, Tryd.ntmps107
      go_wp2_with fail
      go_big_quiet (fail)
      go_wp2
      go_ret
      exact ⟨ret_bool HD.out.symm, ⟨rfl, rfl, rfl, Nat.le_refl _, fun _ _ => rfl⟩⟩
  · have HD := Lib.hid (show dbl s = false by unfold dbl; simp [h2])
    have d2 : decide ((1 : Int) < (s.size : Int)) = false := by simp; omega
    go_enter Tryd.func107, Tryd.ntmps107
    go_wp2_with fail
    go_big_quiet (fail)
    go_wp2
    go_ret
    exact ⟨ret_bool HD.out.symm, ⟨rfl, rfl, rfl, Nat.le_refl _, fun _ _ => rfl⟩⟩

theorem tail3 (s : ByteArray) (h : 3 ≤ s.size) : ((formS s).extract (s.size - 3) s.size).toList = [fbyte s (s.size - 3), fbyte s (s.size - 2), fbyte s (s.size - 1)] := by
  rw [ByteArray.toList_eq, ByteArray.data_extract]
  show ((flist s s.size).toArray.extract (s.size - 3) s.size).toList = _
  obtain ⟨n, hn⟩ : ∃ n, s.size = n + 3 := ⟨s.size - 3, by omega⟩
  rw [hn]
  unfold flist
  apply List.ext_getElem?
  intro j
  simp only [List.extract_toArray, List.extract_eq_take_drop, List.getElem?_take, List.getElem?_drop, List.getElem?_map]
  rcases j with _ | _ | _ | j
  · simp
  · simp
  · simp
  · simp
theorem cvc (s : ByteArray) (h : 3 ≤ s.size) : (((formS s).extract (s.size - 3) s.size).toList == [99, 118, 99]) = (!vow s (s.size - 3) && vow s (s.size - 2) && !vow s (s.size - 1)) := by
  rw [tail3 s h]
  unfold fbyte
  cases vow s (s.size - 3) <;> cases vow s (s.size - 2) <;> cases vow s (s.size - 1) <;> rfl

set_option maxHeartbeats 1000000 in
theorem short_any (s : ByteArray) (w : World) (hs : s.size ≤ 140737488355327) :
    Calls Tryd.prog 104 #[.string s] w fun r w' => r = .returned (.bool (shrt s)) ∧ Below w.heap.size w w' := by
  have hb := get_bt s
  by_cases h3 : 3 ≤ s.size
  · have d3 : decide ((s.size : Int) < 3) = false := by simp; omega
    rcases hx : wxy (bt s (s.size - 1)) with _ | _
    · have HS := Lib.hid (shrt_else h3 hx)
      have hn : bt s (s.size - 1) ≠ 119 ∧ bt s (s.size - 1) ≠ 120 ∧ bt s (s.size - 1) ≠ 121 := by unfold wxy at hx; simpa [and_assoc] using hx
      obtain ⟨n1, n2, n3⟩ := hn
      have m1 : (bt s (s.size - 1) == 119) = false := by simpa using n1
      have m2 : (bt s (s.size - 1) == 120) = false := by simpa using n2
      have m3 : (bt s (s.size - 1) == 121) = false := by simpa using n3
      have hfs := formS_size s
      have hcv := cvc s h3
      clear hx n1 n2 n3
      go_enter Tryd.func104, Tryd.ntmps104
      go_wp2_with (go_at_call 106; refine (form_any _ _ hs).mono ?_; rintro e w1 ⟨rfl, hb1⟩)
      go_ret
      exact ⟨ret_bool HS.out.symm, hb1⟩
    · have HS := Lib.hid (shrt_wxy hx)
      have hn : bt s (s.size - 1) = 119 ∨ bt s (s.size - 1) = 120 ∨ bt s (s.size - 1) = 121 := by unfold wxy at hx; simpa [or_assoc] using hx
      clear hx
      go_enter Tryd.func104, Tryd.ntmps104
      go_wp2_with fail
      all_goals (try (exfalso; omega))
      all_goals
        go_ret
        exact ⟨ret_bool HS.out.symm, Below.refl _ _⟩
  · have d3 : decide ((s.size : Int) < 3) = true := by simp; omega
    have HS := Lib.hid (shrt_small h3)
    go_enter Tryd.func104, Tryd.ntmps104
    go_wp2
    go_ret
    exact ⟨ret_bool HS.out.symm, Below.refl _ _⟩
end Go.Proofs.YtmoahflgcojfcaaDoor.RefShort

namespace Go.Proofs.YtmoahflgcojfcaaDoor.RefLongest
set_option maxRecDepth 100000
open Go.RowKit Go.PlainAid StemPlain Base Vowels StemWalk StemWalk2 RefForm

/-- The pair that the reference holds best after k rules. -/
def bp (s : ByteArray) (L : PL) (k : Nat) : ByteArray × ByteArray :=
  match bst s L k with
  | none => (⟨#[]⟩, ⟨#[]⟩)
  | some j => (L[j]?).getD (⟨#[]⟩, ⟨#[]⟩)
theorem bp_none {s : ByteArray} {L : PL} {k : Nat} (h : bst s L k = none) : bp s L k = (⟨#[]⟩, ⟨#[]⟩) := by unfold bp; rw [h]
theorem bp_some {s : ByteArray} {L : PL} {k j : Nat} {q} (h : bst s L k = some j) (hq : L[j]? = some q) : bp s L k = q := by unfold bp; rw [h]; simp [hq]

def PostL (s : ByteArray) (L : PL) (w : World) (e : Ending) (w' : World) : Prop :=
  e = .returned (.tuple #[.string (s.extract 0 (s.size - (bp s L L.length).1.size)), .agg #[.string (bp s L L.length).1, .string (bp s L L.length).2], .bool (bst s L L.length).isSome]) ∧ Below w.heap.size w w'

set_option maxHeartbeats 4000000 in
theorem longest_ref (s : ByteArray) (L : PL) (A : Option Addr) (c B : Nat) (w : World) (hs : s.size ≤ 140737488355327) (hL : L.length ≤ 1000) (hLs : ∀ p ∈ L, p.1.size ≤ 1000) (hB : B ≤ w.heap.size) (hA : Slc w B A (pairCells L)) :
    Calls Tryd.prog 99 #[.string s, .slice A L.length c] w (PostL s L w) := by
  go_enter Tryd.func99, Tryd.ntmps99
  go_wp2
  go_loopw [8, 14] (fun f i wr => ∃ k : Nat, k ≤ L.length ∧ i = .int .i64 k ∧ f = .bool (bst s L k).isSome ∧ Below w.heap.size w wr ∧
      Blk wr w.heap.size 127 #[.string ⟨#[]⟩, .string ⟨#[]⟩] ∧ Blk wr (w.heap.size + 1) 127 #[.string (bp s L k).1, .string (bp s L k).2]) (fun _ i _ => L.length - (intOf i).toNat)
  case atStart => exact ⟨0, Nat.zero_le _, rfl, rfl, balloc (balloc (Below.refl _ _) _) _, (Blk.new _ _ _).alloc _, by rw [show bp s L 0 = (⟨#[]⟩, ⟨#[]⟩) from bp_none rfl]; have := Blk.new (w.alloc (.cells #[.string ⟨#[]⟩, .string ⟨#[]⟩] 127)) 127 #[.string ⟨#[]⟩, .string ⟨#[]⟩]; simpa using this⟩
  case round =>
    obtain ⟨k, hk, rfl, rfl, hbel, hB0, hB1⟩ := hrel
    by_cases hlt : k < L.length
    · obtain ⟨g, o, rfl, hg, hc⟩ := (hA.below hbel hB) (pairCells_ne (by omega))
      obtain ⟨p, hp⟩ : ∃ p, L[k]? = some p := ⟨_, List.getElem?_eq_getElem hlt⟩
      have hps := hLs p (List.mem_of_getElem? hp)
      have c0 : wr.cell? ⟨g, o + k * 2, none⟩ = some (.string p.1) := by have := hc (2 * k) _ (pairCells_at L k p hp).1; rwa [Nat.mul_comm] at this
      have c1 : wr.cell? ⟨g, o + k * 2 + 1, none⟩ = some (.string p.2) := by have := hc (2 * k + 1) _ (pairCells_at L k p hp).2; rwa [Nat.mul_comm, ← Nat.add_assoc] at this
      have hlt1 := hB1.lt
      have q0 := hB1.cell 0
      have q1 := hB1.cell 1
      have z0 := hB1.frozen 0
      have z1 := hB1.frozen 1
      simp only [List.getElem?_toArray, List.getElem?_cons_zero, List.getElem?_cons_succ] at q0 q1
      rcases hsx : sfx s p.1 with _ | _
      · have HN := Lib.hid (bst_no hp hsx)
        have HP : Hid (bp s L (k + 1) = bp s L k) := Lib.hid (by unfold bp; rw [HN.out])
        have HX := Lib.hid hsx
        clear hc hA hsx
        go_wp2_with (go_at_call 85; refine (ends_val HX.out _ (by omega) (by omega)).mono ?_; rintro e w' ⟨rfl, rfl⟩)
        go_roundw
        case rel => exact ⟨k + 1, by omega, by go_num, by rw [HN.out], balloc hbel _, hB0.alloc _, by rw [HP.out]; exact hB1.alloc _⟩
        case measure => simp [intOf]; omega
      · rcases hbs : bst s L k with _ | j
        · have HN := Lib.hid (bst_new hp hsx hbs)
          have HP : Hid (bp s L (k + 1) = p) := Lib.hid (bp_some HN.out hp)
          have HX := Lib.hid hsx
          rw [bp_none hbs] at q0 q1 hB1
          clear hc hA hsx hbs
          simp only [Option.isSome_none]
          go_wp2_with (go_at_call 85; refine (ends_val HX.out _ (by omega) (by omega)).mono ?_; rintro e w' ⟨rfl, rfl⟩)
          go_roundw
          case rel =>
            refine ⟨k + 1, by omega, by go_num, by rw [HN.out]; rfl, ?_, ?_, ?_⟩
            · exact balloc ((hbel.setCell (p := ⟨w.heap.size + 1, 0, none⟩) (show w.heap.size ≤ w.heap.size + 1 by omega) _).setCell (p := ⟨w.heap.size + 1, 1, none⟩) (show w.heap.size ≤ w.heap.size + 1 by omega) _) _
            · exact ((hB0.far (p := ⟨w.heap.size + 1, 0, none⟩) (show w.heap.size ≠ w.heap.size + 1 by omega) _).far (p := ⟨w.heap.size + 1, 1, none⟩) (show w.heap.size ≠ w.heap.size + 1 by omega) _).alloc _
            · rw [HP.out]
              exact ((hB1.set_ 0 _).set_ 1 _).alloc _
          case measure => simp [intOf]; omega
        · obtain ⟨hjk, q, hq, hsq⟩ := bst_lt s L k j hbs
          rw [bp_some hbs hq] at q0 q1 hB1
          have hqs := hLs q (List.mem_of_getElem? hq)
          simp only [Option.isSome_some]
          by_cases hsz : q.1.size < p.1.size
          · have HN := Lib.hid (bst_up hp hsx hbs hq hsz)
            have HP : Hid (bp s L (k + 1) = p) := Lib.hid (bp_some HN.out hp)
            have HX := Lib.hid hsx
            have d2 : decide ((q.1.size : Int) < (p.1.size : Int)) = true := by simp; omega
            clear hc hA hsx hbs hsq
            go_wp2_with (go_at_call 85; refine (ends_val HX.out _ (by omega) (by omega)).mono ?_; rintro e w' ⟨rfl, rfl⟩)
            go_roundw
            case rel =>
              refine ⟨k + 1, by omega, by go_num, by rw [HN.out]; rfl, ?_, ?_, ?_⟩
              · exact balloc ((hbel.setCell (p := ⟨w.heap.size + 1, 0, none⟩) (show w.heap.size ≤ w.heap.size + 1 by omega) _).setCell (p := ⟨w.heap.size + 1, 1, none⟩) (show w.heap.size ≤ w.heap.size + 1 by omega) _) _
              · exact ((hB0.far (p := ⟨w.heap.size + 1, 0, none⟩) (show w.heap.size ≠ w.heap.size + 1 by omega) _).far (p := ⟨w.heap.size + 1, 1, none⟩) (show w.heap.size ≠ w.heap.size + 1 by omega) _).alloc _
              · rw [HP.out]
                exact ((hB1.set_ 0 _).set_ 1 _).alloc _
            case measure => simp [intOf]; omega
          · have HN := Lib.hid (bst_stay hp hsx hbs hq hsz)
            have HP : Hid (bp s L (k + 1) = q) := Lib.hid (bp_some HN.out hq)
            have HX := Lib.hid hsx
            have d2 : decide ((q.1.size : Int) < (p.1.size : Int)) = false := by simp; omega
            clear hc hA hsx hbs hsq
            go_wp2_with (go_at_call 85; refine (ends_val HX.out _ (by omega) (by omega)).mono ?_; rintro e w' ⟨rfl, rfl⟩)
            go_roundw
            case rel => exact ⟨k + 1, by omega, by go_num, by rw [HN.out]; rfl, balloc hbel _, hB0.alloc _, by rw [HP.out]; exact hB1.alloc _⟩
            case measure => simp [intOf]; omega
    · obtain rfl : k = L.length := by omega
      have hle : (bp s L L.length).1.size ≤ s.size := by
        rcases hbs : bst s L L.length with _ | j
        · rw [bp_none hbs]; exact Nat.zero_le _
        · obtain ⟨_, q, hq, hsq⟩ := bst_lt s L L.length j hbs
          rw [bp_some hbs hq]
          exact sfx_le hsq
      obtain ⟨q, hq⟩ : ∃ q, q = bp s L L.length := ⟨_, rfl⟩
      rw [← hq] at hB1 hle
      have HQ := Lib.hid hq
      have hlt1 := hB1.lt
      have q0 := hB1.cell 0
      have q1 := hB1.cell 1
      have z0 := hB0.frozen 0
      have z1 := hB0.frozen 1
      have r0 := hB0.cell 0
      have r1 := hB0.cell 1
      simp only [List.getElem?_toArray, List.getElem?_cons_zero, List.getElem?_cons_succ] at q0 q1 r0 r1
      clear hq
      go_wp2_with fail
      go_region
      go_wp2
      refine bodyPost_ret (v := .tuple #[.string (s.extract 0 (s.size - q.1.size)), .agg #[.string q.1, .string q.2], .bool (bst s L L.length).isSome]) (by simp [results, Tryd.results99, go_sem, q0, q1, r0, r1]) rfl ⟨by rw [← HQ.out], ?_⟩
      exact ((hbel.setCell (p := ⟨w.heap.size, 0, none⟩) (Nat.le_refl _) _).setCell (p := ⟨w.heap.size, 1, none⟩) (Nat.le_refl _) _).drew

theorem extract_all (s : ByteArray) : s.extract 0 s.size = s := by
  apply ByteArray.ext
  rw [ByteArray.data_extract]
  show s.data.extract 0 s.data.size = s.data
  simp

theorem longest_ref_none {s : ByteArray} {L : PL} (A : Option Addr) (c B : Nat) (w : World) (hs : s.size ≤ 140737488355327) (hL : L.length ≤ 1000) (hLs : ∀ p ∈ L, p.1.size ≤ 1000) (hB : B ≤ w.heap.size) (hA : Slc w B A (pairCells L)) (hbs : bst s L L.length = none) :
    Calls Tryd.prog 99 #[.string s, .slice A L.length c] w fun e w' =>
      e = .returned (.tuple #[.string s, .agg #[.string ⟨#[]⟩, .string ⟨#[]⟩], .bool false]) ∧ Below w.heap.size w w' :=
  (longest_ref s L A c B w hs hL hLs hB hA).mono fun e w' ⟨he, hw⟩ => ⟨by
    rw [he, bp_none hbs, hbs]
    have : s.extract 0 (s.size - (⟨#[]⟩ : ByteArray).size) = s := extract_all s
    rw [this]
    rfl, hw⟩
theorem longest_ref_some {s : ByteArray} {L : PL} {j : Nat} {q} (A : Option Addr) (c B : Nat) (w : World) (hs : s.size ≤ 140737488355327) (hL : L.length ≤ 1000) (hLs : ∀ p ∈ L, p.1.size ≤ 1000) (hB : B ≤ w.heap.size) (hA : Slc w B A (pairCells L)) (hbs : bst s L L.length = some j) (hq : L[j]? = some q) :
    Calls Tryd.prog 99 #[.string s, .slice A L.length c] w fun e w' =>
      e = .returned (.tuple #[.string (cut s q.1), .agg #[.string q.1, .string q.2], .bool true]) ∧ Below w.heap.size w w' :=
  (longest_ref s L A c B w hs hL hLs hB hA).mono fun e w' ⟨he, hw⟩ => ⟨by
    rw [he, bp_some hbs hq, hbs]
    rfl, hw⟩

set_option maxHeartbeats 2000000 in
theorem measured_any (s : ByteArray) (L : PL) (A : Option Addr) (c B m : Nat) (w : World) (hs : s.size ≤ 140737488355327) (hL : L.length ≤ 1000) (hLs : ∀ p ∈ L, p.1.size ≤ 1000 ∧ p.2.size ≤ 1000) (hm : m ≤ 1000) (hB : B ≤ w.heap.size) (hA : Slc w B A (pairCells L)) :
    Calls Tryd.prog 103 #[.string s, .slice A L.length c, .int .i64 (m : Int)] w fun r w' => r = .returned (.string (rep s L m)) ∧ Below w.heap.size w w' := by
  have hL1 : ∀ p ∈ L, p.1.size ≤ 1000 := fun p hp => (hLs p hp).1
  rcases hbs : bst s L L.length with _ | j
  · have HN := Lib.hid (rep_none (m := m) hbs)
    have HB := Lib.hid hbs
    clear hbs
    go_enter Tryd.func103, Tryd.ntmps103
    go_wp2_with (go_at_call 99; refine (longest_ref_none _ _ B _ hs hL hL1 hB hA HB.out).mono ?_; rintro e w1 ⟨rfl, hb1⟩)
    go_ret
    exact ⟨ret_str HN.out.symm, by (repeat (first | exact Below.refl _ _ | assumption | refine balloc ?_ _ | refine bdrew ?_ | refine bdrewN ?_ _ | refine bchain ?_ (by assumption)))⟩
  · obtain ⟨hjk, q, hq, hsq⟩ := bst_lt s L L.length j hbs
    have hqs := hLs q (List.mem_of_getElem? hq)
    have HB := Lib.hid hbs
    have HQ := Lib.hid hq
    have hle := sfx_le hsq
    have hcs : (cut s q.1).size ≤ 140737488355327 := by rw [cut_size]; omega
    have hms : meas (cut s q.1) ≤ (cut s q.1).size := by unfold meas; have := msTo_le (cut s q.1) ((cut s q.1).size - 1); omega
    by_cases hlow : meas (cut s q.1) ≤ m
    · have HN := Lib.hid (rep_low hbs hq hlow)
      have hlow' : ((meas (cut s q.1) : Nat) : Int) ≤ (m : Int) := by omega
      clear hbs hsq hq
      go_enter Tryd.func103, Tryd.ntmps103
      go_wp2_with (first
        | (go_at_call 99; refine (longest_ref_some _ _ B _ hs hL hL1 hB hA HB.out HQ.out).mono ?_; rintro e w1 ⟨rfl, hb1⟩)
        | (go_at_call 100; refine (measure_ref _ _ hcs).mono ?_; rintro e w2 ⟨rfl, hb2⟩))
      go_ret
      exact ⟨ret_str HN.out.symm, by (repeat (first | exact Below.refl _ _ | assumption | refine balloc ?_ _ | refine bdrew ?_ | refine bdrewN ?_ _ | refine bchain ?_ (by assumption)))⟩
    · have HN := Lib.hid (rep_high hbs hq hlow)
      have hlow' : (m : Int) < ((meas (cut s q.1) : Nat) : Int) := by omega
      clear hbs hsq hq
      go_enter Tryd.func103, Tryd.ntmps103
      go_wp2_with (first
        | (go_at_call 99; refine (longest_ref_some _ _ B _ hs hL hL1 hB hA HB.out HQ.out).mono ?_; rintro e w1 ⟨rfl, hb1⟩)
        | (go_at_call 100; refine (measure_ref _ _ hcs).mono ?_; rintro e w2 ⟨rfl, hb2⟩; have c2 := hb2.cell (p := ⟨w1.heap.size, 1, none⟩) (by simp)))
      go_ret
      exact ⟨ret_str HN.out.symm, by (repeat (first | exact Below.refl _ _ | assumption | refine balloc ?_ _ | refine bdrew ?_ | refine bdrewN ?_ _ | refine bchain ?_ (by assumption)))⟩
end Go.Proofs.YtmoahflgcojfcaaDoor.RefLongest

namespace Go.Proofs.YtmoahflgcojfcaaDoor.RefMended
set_option maxRecDepth 100000
open Go.RowKit Go.PlainAid StemPlain Base Vowels StemWalk StemWalk2 RefForm RefShort RefLongest
open StemWalk5 (mend_suf mend_rest dbl_size)

theorem sfx_one {s : ByteArray} (c : UInt8) (h : 1 ≤ s.size) : sfx s ⟨#[c]⟩ = (bt s (s.size - 1) == (c.toNat : Int)) := by
  unfold sfx
  have e : (⟨#[c]⟩ : ByteArray).size = 1 := rfl
  rw [e, decide_eq_true h, Bool.true_and, ByteArray.data_extract]
  have hl : (s.data.extract (s.size - 1) s.size).toList = [s[s.size - 1]'(by omega)] := by
    apply List.ext_getElem?
    intro j
    rcases j with _ | j
    · simp only [Array.getElem?_toList, Array.getElem?_extract]
      have : s.size - 1 < s.data.size := by show s.size - 1 < s.size; omega
      have h2 : 0 < min s.size s.data.size - (s.size - 1) := by show 0 < min s.size s.size - (s.size - 1); omega
      simp [h2, this]
      exact ⟨by omega, Array.getElem?_eq_getElem this⟩
    · simp
      omega
  rw [hl]
  unfold bt
  rw [dif_pos (by omega)]
  show ([s[s.size - 1]] == [c]) = _
  rw [Bool.eq_iff_iff]
  simp
  rw [← UInt8.toNat_inj]
  omega

theorem lsz_sfx {s : ByteArray} (h : 1 ≤ s.size) (hl : lsz (bt s (s.size - 1)) = false) : sfx s ⟨#[108]⟩ = false ∧ sfx s ⟨#[115]⟩ = false ∧ sfx s ⟨#[122]⟩ = false := by
  rw [sfx_one 108 h, sfx_one 115 h, sfx_one 122 h]
  unfold lsz at hl
  simp only [Bool.or_eq_false_iff] at hl
  exact ⟨hl.1.1, hl.1.2, hl.2⟩
theorem lsz_sfx' {s : ByteArray} (h : 1 ≤ s.size) (hl : lsz (bt s (s.size - 1)) = true) : sfx s ⟨#[108]⟩ = true ∨ (sfx s ⟨#[108]⟩ = false ∧ sfx s ⟨#[115]⟩ = true) ∨ (sfx s ⟨#[108]⟩ = false ∧ sfx s ⟨#[115]⟩ = false ∧ sfx s ⟨#[122]⟩ = true) := by
  rw [sfx_one 108 h, sfx_one 115 h, sfx_one 122 h]
  unfold lsz at hl
  simp only [Bool.or_eq_true] at hl
  cases h1 : (bt s (s.size - 1) == ((108 : UInt8).toNat : Int)) <;> cases h2 : (bt s (s.size - 1) == ((115 : UInt8).toNat : Int)) <;> cases h3 : (bt s (s.size - 1) == ((122 : UInt8).toNat : Int)) <;> simp
  rcases hl with (h | h) | h
  · exact absurd (h.symm.trans h1) (by simp)
  · exact absurd (h.symm.trans h2) (by simp)
  · exact absurd (h.symm.trans h3) (by simp)

set_option maxHeartbeats 8000000 in
theorem mended_any (r : ByteArray) (w : World) (hs : r.size ≤ 140737488351327) :
    Calls Tryd.prog 102 #[.string r] w fun e w' => e = .returned (.string (mend r)) ∧ Below w.heap.size w w' := by
  have hs1 : r.size ≤ 140737488355327 := by omega
  have hs2 : r.size ≤ 281474976710656 := by omega
  have hms : meas r ≤ r.size := by unfold meas; have := msTo_le r (r.size - 1); omega
  rcases h1 : sfx r ⟨#[97, 116]⟩ with _ | _
  · rcases h2 : sfx r ⟨#[98, 108]⟩ with _ | _
    · rcases h3 : sfx r ⟨#[105, 122]⟩ with _ | _
      · have HM := Lib.hid (mend_rest h1 h2 h3)
        rcases hd : dbl r with _ | _
        · have HD : Hid ((dbl r && !lsz (bt r (r.size - 1))) = false) := Lib.hid (by rw [hd]; rfl)
          rcases hm : (meas r == 1) with _ | _
          · have HM1 := Lib.hid hm
            have hmi : (((meas r : Nat) : Int) == 1) = false := by have : meas r ≠ 1 := by simpa using hm
                                                                   simp; omega
            clear hm
            go_enter Tryd.func102, Tryd.ntmps102
            go_wp2_with (first
              | (go_at_call 85; refine (ends_any _ _ _ hs2 (by decide)).mono ?_; rintro e w' ⟨rfl, rfl⟩)
              | (go_at_call 107; refine (double_any _ _ hs1).mono ?_; rintro e w3 ⟨rfl, hb3⟩)
              | (go_at_call 100; refine (measure_ref _ _ hs1).mono ?_; rintro e w4 ⟨rfl, hb4⟩)
              | (go_at_call 104; refine (short_any _ _ hs1).mono ?_; rintro e w5 ⟨rfl, hb5⟩))
            go_ret
            refine ⟨ret_str ?_, by (repeat (first | exact Below.refl _ _ | assumption | refine balloc ?_ _ | refine bdrew ?_ | refine bdrewN ?_ _ | refine bchain ?_ (by assumption)))⟩
            rw [HM.out, HD.out, HM1.out]
            rfl
          · have HM1 := Lib.hid hm
            have hmi : (((meas r : Nat) : Int) == 1) = true := by have : meas r = 1 := by simpa using hm
                                                                  simp; omega
            clear hm
            rcases hsh : shrt r with _ | _
            · have HSH := Lib.hid hsh
              go_enter Tryd.func102, Tryd.ntmps102
              go_wp2_with (first
                | (go_at_call 85; refine (ends_any _ _ _ hs2 (by decide)).mono ?_; rintro e w' ⟨rfl, rfl⟩)
                | (go_at_call 107; refine (double_any _ _ hs1).mono ?_; rintro e w3 ⟨rfl, hb3⟩)
                | (go_at_call 100; refine (measure_ref _ _ hs1).mono ?_; rintro e w4 ⟨rfl, hb4⟩)
                | (go_at_call 104; refine (short_any _ _ hs1).mono ?_; rintro e w5 ⟨rfl, hb5⟩))
              go_ret
              refine ⟨ret_str ?_, by (repeat (first | exact Below.refl _ _ | assumption | refine balloc ?_ _ | refine bdrew ?_ | refine bdrewN ?_ _ | refine bchain ?_ (by assumption)))⟩
              rw [HM.out, HD.out, HM1.out, HSH.out]
              rfl
            · have HSH := Lib.hid hsh
              go_enter Tryd.func102, Tryd.ntmps102
              go_wp2_with (first
                | (go_at_call 85; refine (ends_any _ _ _ hs2 (by decide)).mono ?_; rintro e w' ⟨rfl, rfl⟩)
                | (go_at_call 107; refine (double_any _ _ hs1).mono ?_; rintro e w3 ⟨rfl, hb3⟩)
                | (go_at_call 100; refine (measure_ref _ _ hs1).mono ?_; rintro e w4 ⟨rfl, hb4⟩)
                | (go_at_call 104; refine (short_any _ _ hs1).mono ?_; rintro e w5 ⟨rfl, hb5⟩))
              go_ret
              refine ⟨ret_str ?_, by (repeat (first | exact Below.refl _ _ | assumption | refine balloc ?_ _ | refine bdrew ?_ | refine bdrewN ?_ _ | refine bchain ?_ (by assumption)))⟩
              rw [HM.out, HD.out, HM1.out, HSH.out]
              rfl
        · have hsz := dbl_size hd
          rcases hl : lsz (bt r (r.size - 1)) with _ | _
          · have HD : Hid ((dbl r && !lsz (bt r (r.size - 1))) = true) := Lib.hid (by rw [hd, hl]; rfl)
            obtain ⟨g1, g2, g3⟩ := lsz_sfx (by omega) hl
            clear hl
            go_enter Tryd.func102, Tryd.ntmps102
            go_wp2_with (first
              | (go_at_call 85; refine (ends_any _ _ _ hs2 (by decide)).mono ?_; rintro e w' ⟨rfl, rfl⟩)
              | (go_at_call 107; refine (double_any _ _ hs1).mono ?_; rintro e w3 ⟨rfl, hb3⟩)
              | (go_at_call 100; refine (measure_ref _ _ hs1).mono ?_; rintro e w4 ⟨rfl, hb4⟩)
              | (go_at_call 104; refine (short_any _ _ hs1).mono ?_; rintro e w5 ⟨rfl, hb5⟩))
            go_ret
            refine ⟨ret_str ?_, by (repeat (first | exact Below.refl _ _ | assumption | refine balloc ?_ _ | refine bdrew ?_ | refine bdrewN ?_ _ | refine bchain ?_ (by assumption)))⟩
            rw [HM.out, HD.out]
            rfl
          · have HD : Hid ((dbl r && !lsz (bt r (r.size - 1))) = false) := Lib.hid (by rw [hd, hl]; rfl)
            have hw := lsz_sfx' (by omega) hl
            clear hl
            rcases hw with g1 | ⟨g1, g2⟩ | ⟨g1, g2, g3⟩
            · skip
              rcases hm : (meas r == 1) with _ | _
              · have HM1 := Lib.hid hm
                have hmi : (((meas r : Nat) : Int) == 1) = false := by have : meas r ≠ 1 := by simpa using hm
                                                                       simp; omega
                clear hm
                go_enter Tryd.func102, Tryd.ntmps102
                go_wp2_with (first
                  | (go_at_call 85; refine (ends_any _ _ _ hs2 (by decide)).mono ?_; rintro e w' ⟨rfl, rfl⟩)
                  | (go_at_call 107; refine (double_any _ _ hs1).mono ?_; rintro e w3 ⟨rfl, hb3⟩)
                  | (go_at_call 100; refine (measure_ref _ _ hs1).mono ?_; rintro e w4 ⟨rfl, hb4⟩)
                  | (go_at_call 104; refine (short_any _ _ hs1).mono ?_; rintro e w5 ⟨rfl, hb5⟩))
                go_ret
                refine ⟨ret_str ?_, by (repeat (first | exact Below.refl _ _ | assumption | refine balloc ?_ _ | refine bdrew ?_ | refine bdrewN ?_ _ | refine bchain ?_ (by assumption)))⟩
                rw [HM.out, HD.out, HM1.out]
                rfl
              · have HM1 := Lib.hid hm
                have hmi : (((meas r : Nat) : Int) == 1) = true := by have : meas r = 1 := by simpa using hm
                                                                      simp; omega
                clear hm
                rcases hsh : shrt r with _ | _
                · have HSH := Lib.hid hsh
                  go_enter Tryd.func102, Tryd.ntmps102
                  go_wp2_with (first
                    | (go_at_call 85; refine (ends_any _ _ _ hs2 (by decide)).mono ?_; rintro e w' ⟨rfl, rfl⟩)
                    | (go_at_call 107; refine (double_any _ _ hs1).mono ?_; rintro e w3 ⟨rfl, hb3⟩)
                    | (go_at_call 100; refine (measure_ref _ _ hs1).mono ?_; rintro e w4 ⟨rfl, hb4⟩)
                    | (go_at_call 104; refine (short_any _ _ hs1).mono ?_; rintro e w5 ⟨rfl, hb5⟩))
                  go_ret
                  refine ⟨ret_str ?_, by (repeat (first | exact Below.refl _ _ | assumption | refine balloc ?_ _ | refine bdrew ?_ | refine bdrewN ?_ _ | refine bchain ?_ (by assumption)))⟩
                  rw [HM.out, HD.out, HM1.out, HSH.out]
                  rfl
                · have HSH := Lib.hid hsh
                  go_enter Tryd.func102, Tryd.ntmps102
                  go_wp2_with (first
                    | (go_at_call 85; refine (ends_any _ _ _ hs2 (by decide)).mono ?_; rintro e w' ⟨rfl, rfl⟩)
                    | (go_at_call 107; refine (double_any _ _ hs1).mono ?_; rintro e w3 ⟨rfl, hb3⟩)
                    | (go_at_call 100; refine (measure_ref _ _ hs1).mono ?_; rintro e w4 ⟨rfl, hb4⟩)
                    | (go_at_call 104; refine (short_any _ _ hs1).mono ?_; rintro e w5 ⟨rfl, hb5⟩))
                  go_ret
                  refine ⟨ret_str ?_, by (repeat (first | exact Below.refl _ _ | assumption | refine balloc ?_ _ | refine bdrew ?_ | refine bdrewN ?_ _ | refine bchain ?_ (by assumption)))⟩
                  rw [HM.out, HD.out, HM1.out, HSH.out]
                  rfl
            · skip
              rcases hm : (meas r == 1) with _ | _
              · have HM1 := Lib.hid hm
                have hmi : (((meas r : Nat) : Int) == 1) = false := by have : meas r ≠ 1 := by simpa using hm
                                                                       simp; omega
                clear hm
                go_enter Tryd.func102, Tryd.ntmps102
                go_wp2_with (first
                  | (go_at_call 85; refine (ends_any _ _ _ hs2 (by decide)).mono ?_; rintro e w' ⟨rfl, rfl⟩)
                  | (go_at_call 107; refine (double_any _ _ hs1).mono ?_; rintro e w3 ⟨rfl, hb3⟩)
                  | (go_at_call 100; refine (measure_ref _ _ hs1).mono ?_; rintro e w4 ⟨rfl, hb4⟩)
                  | (go_at_call 104; refine (short_any _ _ hs1).mono ?_; rintro e w5 ⟨rfl, hb5⟩))
                go_ret
                refine ⟨ret_str ?_, by (repeat (first | exact Below.refl _ _ | assumption | refine balloc ?_ _ | refine bdrew ?_ | refine bdrewN ?_ _ | refine bchain ?_ (by assumption)))⟩
                rw [HM.out, HD.out, HM1.out]
                rfl
              · have HM1 := Lib.hid hm
                have hmi : (((meas r : Nat) : Int) == 1) = true := by have : meas r = 1 := by simpa using hm
                                                                      simp; omega
                clear hm
                rcases hsh : shrt r with _ | _
                · have HSH := Lib.hid hsh
                  go_enter Tryd.func102, Tryd.ntmps102
                  go_wp2_with (first
                    | (go_at_call 85; refine (ends_any _ _ _ hs2 (by decide)).mono ?_; rintro e w' ⟨rfl, rfl⟩)
                    | (go_at_call 107; refine (double_any _ _ hs1).mono ?_; rintro e w3 ⟨rfl, hb3⟩)
                    | (go_at_call 100; refine (measure_ref _ _ hs1).mono ?_; rintro e w4 ⟨rfl, hb4⟩)
                    | (go_at_call 104; refine (short_any _ _ hs1).mono ?_; rintro e w5 ⟨rfl, hb5⟩))
                  go_ret
                  refine ⟨ret_str ?_, by (repeat (first | exact Below.refl _ _ | assumption | refine balloc ?_ _ | refine bdrew ?_ | refine bdrewN ?_ _ | refine bchain ?_ (by assumption)))⟩
                  rw [HM.out, HD.out, HM1.out, HSH.out]
                  rfl
                · have HSH := Lib.hid hsh
                  go_enter Tryd.func102, Tryd.ntmps102
                  go_wp2_with (first
                    | (go_at_call 85; refine (ends_any _ _ _ hs2 (by decide)).mono ?_; rintro e w' ⟨rfl, rfl⟩)
                    | (go_at_call 107; refine (double_any _ _ hs1).mono ?_; rintro e w3 ⟨rfl, hb3⟩)
                    | (go_at_call 100; refine (measure_ref _ _ hs1).mono ?_; rintro e w4 ⟨rfl, hb4⟩)
                    | (go_at_call 104; refine (short_any _ _ hs1).mono ?_; rintro e w5 ⟨rfl, hb5⟩))
                  go_ret
                  refine ⟨ret_str ?_, by (repeat (first | exact Below.refl _ _ | assumption | refine balloc ?_ _ | refine bdrew ?_ | refine bdrewN ?_ _ | refine bchain ?_ (by assumption)))⟩
                  rw [HM.out, HD.out, HM1.out, HSH.out]
                  rfl
            · skip
              rcases hm : (meas r == 1) with _ | _
              · have HM1 := Lib.hid hm
                have hmi : (((meas r : Nat) : Int) == 1) = false := by have : meas r ≠ 1 := by simpa using hm
                                                                       simp; omega
                clear hm
                go_enter Tryd.func102, Tryd.ntmps102
                go_wp2_with (first
                  | (go_at_call 85; refine (ends_any _ _ _ hs2 (by decide)).mono ?_; rintro e w' ⟨rfl, rfl⟩)
                  | (go_at_call 107; refine (double_any _ _ hs1).mono ?_; rintro e w3 ⟨rfl, hb3⟩)
                  | (go_at_call 100; refine (measure_ref _ _ hs1).mono ?_; rintro e w4 ⟨rfl, hb4⟩)
                  | (go_at_call 104; refine (short_any _ _ hs1).mono ?_; rintro e w5 ⟨rfl, hb5⟩))
                go_ret
                refine ⟨ret_str ?_, by (repeat (first | exact Below.refl _ _ | assumption | refine balloc ?_ _ | refine bdrew ?_ | refine bdrewN ?_ _ | refine bchain ?_ (by assumption)))⟩
                rw [HM.out, HD.out, HM1.out]
                rfl
              · have HM1 := Lib.hid hm
                have hmi : (((meas r : Nat) : Int) == 1) = true := by have : meas r = 1 := by simpa using hm
                                                                      simp; omega
                clear hm
                rcases hsh : shrt r with _ | _
                · have HSH := Lib.hid hsh
                  go_enter Tryd.func102, Tryd.ntmps102
                  go_wp2_with (first
                    | (go_at_call 85; refine (ends_any _ _ _ hs2 (by decide)).mono ?_; rintro e w' ⟨rfl, rfl⟩)
                    | (go_at_call 107; refine (double_any _ _ hs1).mono ?_; rintro e w3 ⟨rfl, hb3⟩)
                    | (go_at_call 100; refine (measure_ref _ _ hs1).mono ?_; rintro e w4 ⟨rfl, hb4⟩)
                    | (go_at_call 104; refine (short_any _ _ hs1).mono ?_; rintro e w5 ⟨rfl, hb5⟩))
                  go_ret
                  refine ⟨ret_str ?_, by (repeat (first | exact Below.refl _ _ | assumption | refine balloc ?_ _ | refine bdrew ?_ | refine bdrewN ?_ _ | refine bchain ?_ (by assumption)))⟩
                  rw [HM.out, HD.out, HM1.out, HSH.out]
                  rfl
                · have HSH := Lib.hid hsh
                  go_enter Tryd.func102, Tryd.ntmps102
                  go_wp2_with (first
                    | (go_at_call 85; refine (ends_any _ _ _ hs2 (by decide)).mono ?_; rintro e w' ⟨rfl, rfl⟩)
                    | (go_at_call 107; refine (double_any _ _ hs1).mono ?_; rintro e w3 ⟨rfl, hb3⟩)
                    | (go_at_call 100; refine (measure_ref _ _ hs1).mono ?_; rintro e w4 ⟨rfl, hb4⟩)
                    | (go_at_call 104; refine (short_any _ _ hs1).mono ?_; rintro e w5 ⟨rfl, hb5⟩))
                  go_ret
                  refine ⟨ret_str ?_, by (repeat (first | exact Below.refl _ _ | assumption | refine balloc ?_ _ | refine bdrew ?_ | refine bdrewN ?_ _ | refine bchain ?_ (by assumption)))⟩
                  rw [HM.out, HD.out, HM1.out, HSH.out]
                  rfl
      · have HM := Lib.hid (mend_suf (.inr (.inr h3)))
        go_enter Tryd.func102, Tryd.ntmps102
        go_wp2_with (first
          | (go_at_call 85; refine (ends_any _ _ _ hs2 (by decide)).mono ?_; rintro e w' ⟨rfl, rfl⟩)
          | (go_at_call 107; refine (double_any _ _ hs1).mono ?_; rintro e w3 ⟨rfl, hb3⟩)
          | (go_at_call 100; refine (measure_ref _ _ hs1).mono ?_; rintro e w4 ⟨rfl, hb4⟩)
          | (go_at_call 104; refine (short_any _ _ hs1).mono ?_; rintro e w5 ⟨rfl, hb5⟩))
        go_ret
        refine ⟨ret_str ?_, by (repeat (first | exact Below.refl _ _ | assumption | refine balloc ?_ _ | refine bdrew ?_ | refine bdrewN ?_ _ | refine bchain ?_ (by assumption)))⟩
        exact HM.out.symm
    · have HM := Lib.hid (mend_suf (.inr (.inl h2)))
      go_enter Tryd.func102, Tryd.ntmps102
      go_wp2_with (first
        | (go_at_call 85; refine (ends_any _ _ _ hs2 (by decide)).mono ?_; rintro e w' ⟨rfl, rfl⟩)
        | (go_at_call 107; refine (double_any _ _ hs1).mono ?_; rintro e w3 ⟨rfl, hb3⟩)
        | (go_at_call 100; refine (measure_ref _ _ hs1).mono ?_; rintro e w4 ⟨rfl, hb4⟩)
        | (go_at_call 104; refine (short_any _ _ hs1).mono ?_; rintro e w5 ⟨rfl, hb5⟩))
      go_ret
      refine ⟨ret_str ?_, by (repeat (first | exact Below.refl _ _ | assumption | refine balloc ?_ _ | refine bdrew ?_ | refine bdrewN ?_ _ | refine bchain ?_ (by assumption)))⟩
      exact HM.out.symm
  · have HM := Lib.hid (mend_suf (.inl h1))
    go_enter Tryd.func102, Tryd.ntmps102
    go_wp2_with (first
      | (go_at_call 85; refine (ends_any _ _ _ hs2 (by decide)).mono ?_; rintro e w' ⟨rfl, rfl⟩)
      | (go_at_call 107; refine (double_any _ _ hs1).mono ?_; rintro e w3 ⟨rfl, hb3⟩)
      | (go_at_call 100; refine (measure_ref _ _ hs1).mono ?_; rintro e w4 ⟨rfl, hb4⟩)
      | (go_at_call 104; refine (short_any _ _ hs1).mono ?_; rintro e w5 ⟨rfl, hb5⟩))
    go_ret
    refine ⟨ret_str ?_, by (repeat (first | exact Below.refl _ _ | assumption | refine balloc ?_ _ | refine bdrew ?_ | refine bdrewN ?_ _ | refine bchain ?_ (by assumption)))⟩
    exact HM.out.symm
end Go.Proofs.YtmoahflgcojfcaaDoor.RefMended

namespace Go.Proofs.YtmoahflgcojfcaaDoor.RefFirst
set_option maxRecDepth 100000
open Go.RowKit Go.PlainAid StemPlain StemSize Base Vowels StemWalk StemWalk2 RefForm RefShort RefLongest RefMended

theorem ret_value {a b : ByteArray} (h : a = b) : Value.string b = .string a := by rw [h]
theorem bset {a b : World} (h : Below a.heap.size a b) {g i : Nat} (hp : a.heap.size ≤ g) (u : Value) : Below a.heap.size a (b.setCell ⟨g, i, none⟩ u) := h.setCell (p := ⟨g, i, none⟩) hp u
theorem l1a_small : ∀ p ∈ L1a, p.1.size ≤ 1000 ∧ p.2.size ≤ 10 := by decide

set_option maxHeartbeats 8000000 in
theorem first_any (s : ByteArray) (w : World) (hs : s.size ≤ 140737488351300) :
    Calls Tryd.prog 86 #[.string s] w fun e w' => e = .returned (.string (s1c (s1b (s1a s)))) ∧ Below w.heap.size w w' := by
  have hs1 : s.size ≤ 140737488355327 := by omega
  obtain ⟨u, hu⟩ : ∃ u, u = s1a s := ⟨_, rfl⟩
  have hus : u.size ≤ s.size + 10 := by rw [hu]; exact s1a_size s
  have HU := Lib.hid hu
  rw [← hu]
  clear hu
  go_enter Tryd.func86, Tryd.ntmps86
  go_upto_if 17 with (go_at_call 99; refine (longest_ref s L1a _ _ (w.heap.size + 1) _ hs1 (by decide) (by decide) (by simp) (slc_new w _ _)).mono ?_; rintro e w1 ⟨rfl, hb1⟩)
  go_cut [0, 3, 5] (fun s0 _ _ wx => s0 = .string u ∧ Below w.heap.size w wx ∧ ∃ a b, Blk wx w1.heap.size 127 #[.string a, .string b])
  case first =>
    rcases hbs : bst s L1a L1a.length with _ | j
    · have HS := Lib.hid (sub_none hbs)
      have hbp := bp_none hbs
      go_wp2
      go_meet
      case rel => exact ⟨by rw [HU.out]; exact ret_value HS.out, by (repeat (first | exact Below.refl _ _ | assumption | refine balloc ?_ _ | refine bdrew ?_ | refine bdrewN ?_ _ | refine bset ?_ (by first | assumption | omega) _ | refine bchain ?_ (by assumption))), _, _, Blk.new _ _ _⟩
    · obtain ⟨hjk, q, hq, hsq⟩ := bst_lt s L1a L1a.length j hbs
      have HS := Lib.hid (sub_some hbs hq)
      have hbp := bp_some hbs hq
      have hq2 := (l1a_small q (List.mem_of_getElem? hq)).2
      have hle := sfx_le hsq
      have hext : (s.extract 0 (s.size - q.1.size)).size ≤ 140737488351300 := by have := cut_size s q.1; unfold cut at this; omega
      clear hq hsq
      go_wp2
      go_meet
      case rel => exact ⟨by rw [HU.out]; exact ret_value HS.out, by (repeat (first | exact Below.refl _ _ | assumption | refine balloc ?_ _ | refine bdrew ?_ | refine bdrewN ?_ _ | refine bset ?_ (by first | assumption | omega) _ | refine bchain ?_ (by assumption))), _, _, Blk.new _ _ _⟩
  case rest =>
    obtain ⟨rfl, hbel, a, b, hblk⟩ := hcut
    have hu1 : u.size ≤ 140737488355327 := by omega
    have hu2 : u.size ≤ 140737488351320 := by omega
    obtain ⟨v, hv⟩ : ∃ v, v = s1b u := ⟨_, rfl⟩
    have hvs : v.size ≤ u.size + 10 := by rw [hv]; exact s1b_size u
    have hv2 : v.size ≤ 281474976710656 := by omega
    have HV := Lib.hid hv
    clear hv hs hs1
    have hlt := hblk.lt
    have h1sz : w.heap.size ≤ w1.heap.size := by have := hb1.size; simp at this; omega
    rcases hbs : bst u L1b L1b.length with _ | j
    · have hbp := bp_none hbs
      have HS := Lib.hid (s1b_none hbs)
      go_upto_if 37 with (go_at_call 99; refine (longest_ref u L1b _ _ (wc.heap.size + 1) _ hu1 (by decide) (by decide) (by simp) (slc_new wc _ _)).mono ?_; rintro e w2 ⟨rfl, hb2⟩; have hk := (hblk.alloc (.cells #[.string ⟨#[101, 101, 100]⟩, .string ⟨#[101, 101]⟩, .string ⟨#[101, 100]⟩, .string ⟨#[]⟩, .string ⟨#[105, 110, 103]⟩, .string ⟨#[]⟩] 127)).below hb2 (by have := hblk.lt; simp; omega); have q0 := hk.cell 0; have q1 := hk.cell 1; have z0 := hk.frozen 0; have z1 := hk.frozen 1; simp only [List.getElem?_toArray, List.getElem?_cons_zero, List.getElem?_cons_succ] at q0 q1; have hlt2 := hk.lt)
      go_cut [0] (fun s0 wx => s0 = .string v ∧ Below w.heap.size w wx)
      case first =>
        go_wp2
        go_meet
        case rel => exact ⟨by rw [HV.out]; exact ret_value HS.out, by (repeat (first | exact Below.refl _ _ | assumption | refine balloc ?_ _ | refine bdrew ?_ | refine bdrewN ?_ _ | refine bset ?_ (by first | assumption | omega) _ | refine bchain ?_ (by assumption)))⟩
      case rest =>
        obtain ⟨rfl, hbel3⟩ := hcut
        rcases hy : sfx v ⟨#[121]⟩ with _ | _
        · have H3 : Hid (s1c v = v) := Lib.hid (by unfold s1c; rw [hy]; rfl)
          go_wp2_with (go_at_call 85; refine (ends_any _ _ _ hv2 (by decide)).mono ?_; rintro e w' ⟨rfl, rfl⟩)
          go_ret
          exact ⟨by rw [← HV.out, H3.out]; rfl, hbel3⟩
        · have hle := sfx_le hy
          have hle1 : 1 ≤ v.size := hle
          obtain ⟨y, hyy⟩ : ∃ y, y = cut v ⟨#[121]⟩ := ⟨_, rfl⟩
          have hex : v.extract 0 (v.size - 1) = y := hyy.symm
          have hys : y.size ≤ 140737488355320 := by rw [hyy, cut_size]; omega
          rcases hvy : hasV y with _ | _
          · have H3 : Hid (s1c v = v) := Lib.hid (by unfold s1c; rw [← hyy, hy, hvy]; rfl)
            clear hyy
            go_wp2_with (first
              | (go_at_call 85; refine (ends_any _ _ _ hv2 (by decide)).mono ?_; rintro e w' ⟨rfl, rfl⟩)
              | (go_at_call 101; refine (vowelled_any _ _ (by omega)).mono ?_; rintro e w9 ⟨rfl, hb9⟩))
            go_ret
            exact ⟨by rw [← HV.out, H3.out]; rfl, by (repeat (first | exact Below.refl _ _ | assumption | refine balloc ?_ _ | refine bdrew ?_ | refine bdrewN ?_ _ | refine bset ?_ (by first | assumption | omega) _ | refine bchain ?_ (by assumption)))⟩
          · have H3 : Hid (s1c v = y ++ ⟨#[105]⟩) := Lib.hid (by unfold s1c; rw [← hyy, hy, hvy]; rfl)
            clear hyy
            go_wp2_with (first
              | (go_at_call 85; refine (ends_any _ _ _ hv2 (by decide)).mono ?_; rintro e w' ⟨rfl, rfl⟩)
              | (go_at_call 101; refine (vowelled_any _ _ (by omega)).mono ?_; rintro e w9 ⟨rfl, hb9⟩))
            go_ret
            exact ⟨by rw [← HV.out, H3.out]; rfl, by (repeat (first | exact Below.refl _ _ | assumption | refine balloc ?_ _ | refine bdrew ?_ | refine bdrewN ?_ _ | refine bset ?_ (by first | assumption | omega) _ | refine bchain ?_ (by assumption)))⟩
    · obtain ⟨hjk, q, hq, hsq⟩ := bst_lt u L1b L1b.length j hbs
      have hbp := bp_some hbs hq
      have hle0 := sfx_le hsq
      have hj3 : j < 3 := hjk
      obtain rfl | rfl | rfl : j = 0 ∨ j = 1 ∨ j = 2 := by omega
      · have hq' : q = (⟨#[101, 101, 100]⟩, ⟨#[101, 101]⟩) := Option.some.inj (hq.symm.trans rfl)
        subst hq'
        have hle1 : 3 ≤ u.size := hle0
        obtain ⟨r, hr⟩ : ∃ r, r = cut u ⟨#[101, 101, 100]⟩ := ⟨_, rfl⟩
        have hre : u.extract 0 (u.size - 3) = r := hr.symm
        have hrs : r.size ≤ 140737488351320 := by rw [hr, cut_size]; omega
        have hms : meas r ≤ r.size := by unfold meas; have := msTo_le r (r.size - 1); omega
        have HS := Lib.hid (s1b_0 hbs)
        rw [← hr] at HS
        clear hr hq hsq
        by_cases hm : 0 < meas r
        · have hmi : (0 : Int) < ((meas r : Nat) : Int) := by omega
          have HM := Lib.hid hm
          clear hm
          go_upto_if 37 with (go_at_call 99; refine (longest_ref u L1b _ _ (wc.heap.size + 1) _ hu1 (by decide) (by decide) (by simp) (slc_new wc _ _)).mono ?_; rintro e w2 ⟨rfl, hb2⟩; have hk := (hblk.alloc (.cells #[.string ⟨#[101, 101, 100]⟩, .string ⟨#[101, 101]⟩, .string ⟨#[101, 100]⟩, .string ⟨#[]⟩, .string ⟨#[105, 110, 103]⟩, .string ⟨#[]⟩] 127)).below hb2 (by have := hblk.lt; simp; omega); have q0 := hk.cell 0; have q1 := hk.cell 1; have z0 := hk.frozen 0; have z1 := hk.frozen 1; simp only [List.getElem?_toArray, List.getElem?_cons_zero, List.getElem?_cons_succ] at q0 q1; have hlt2 := hk.lt)
          go_cut [0] (fun s0 wx => s0 = .string v ∧ Below w.heap.size w wx)
          case first =>
            go_wp2_with (go_at_call 100; refine (measure_ref _ _ (by omega)).mono ?_; rintro e w4 ⟨rfl, hb4⟩; have c1 := hb4.cell (p := ⟨w1.heap.size, 1, none⟩) (by simp; omega))
            go_meet
            case rel => exact ⟨by rw [HV.out, HS.out, if_pos HM.out], by (repeat (first | exact Below.refl _ _ | assumption | refine balloc ?_ _ | refine bdrew ?_ | refine bdrewN ?_ _ | refine bset ?_ (by first | assumption | omega) _ | refine bchain ?_ (by assumption)))⟩
          case rest =>
            obtain ⟨rfl, hbel3⟩ := hcut
            rcases hy : sfx v ⟨#[121]⟩ with _ | _
            · have H3 : Hid (s1c v = v) := Lib.hid (by unfold s1c; rw [hy]; rfl)
              go_wp2_with (go_at_call 85; refine (ends_any _ _ _ hv2 (by decide)).mono ?_; rintro e w' ⟨rfl, rfl⟩)
              go_ret
              exact ⟨by rw [← HV.out, H3.out]; rfl, hbel3⟩
            · have hle := sfx_le hy
              have hle1 : 1 ≤ v.size := hle
              obtain ⟨y, hyy⟩ : ∃ y, y = cut v ⟨#[121]⟩ := ⟨_, rfl⟩
              have hex : v.extract 0 (v.size - 1) = y := hyy.symm
              have hys : y.size ≤ 140737488355320 := by rw [hyy, cut_size]; omega
              rcases hvy : hasV y with _ | _
              · have H3 : Hid (s1c v = v) := Lib.hid (by unfold s1c; rw [← hyy, hy, hvy]; rfl)
                clear hyy
                go_wp2_with (first
                  | (go_at_call 85; refine (ends_any _ _ _ hv2 (by decide)).mono ?_; rintro e w' ⟨rfl, rfl⟩)
                  | (go_at_call 101; refine (vowelled_any _ _ (by omega)).mono ?_; rintro e w9 ⟨rfl, hb9⟩))
                go_ret
                exact ⟨by rw [← HV.out, H3.out]; rfl, by (repeat (first | exact Below.refl _ _ | assumption | refine balloc ?_ _ | refine bdrew ?_ | refine bdrewN ?_ _ | refine bset ?_ (by first | assumption | omega) _ | refine bchain ?_ (by assumption)))⟩
              · have H3 : Hid (s1c v = y ++ ⟨#[105]⟩) := Lib.hid (by unfold s1c; rw [← hyy, hy, hvy]; rfl)
                clear hyy
                go_wp2_with (first
                  | (go_at_call 85; refine (ends_any _ _ _ hv2 (by decide)).mono ?_; rintro e w' ⟨rfl, rfl⟩)
                  | (go_at_call 101; refine (vowelled_any _ _ (by omega)).mono ?_; rintro e w9 ⟨rfl, hb9⟩))
                go_ret
                exact ⟨by rw [← HV.out, H3.out]; rfl, by (repeat (first | exact Below.refl _ _ | assumption | refine balloc ?_ _ | refine bdrew ?_ | refine bdrewN ?_ _ | refine bset ?_ (by first | assumption | omega) _ | refine bchain ?_ (by assumption)))⟩
        · have hmi : ¬ (0 : Int) < ((meas r : Nat) : Int) := by omega
          have HM := Lib.hid hm
          clear hm
          go_upto_if 37 with (go_at_call 99; refine (longest_ref u L1b _ _ (wc.heap.size + 1) _ hu1 (by decide) (by decide) (by simp) (slc_new wc _ _)).mono ?_; rintro e w2 ⟨rfl, hb2⟩; have hk := (hblk.alloc (.cells #[.string ⟨#[101, 101, 100]⟩, .string ⟨#[101, 101]⟩, .string ⟨#[101, 100]⟩, .string ⟨#[]⟩, .string ⟨#[105, 110, 103]⟩, .string ⟨#[]⟩] 127)).below hb2 (by have := hblk.lt; simp; omega); have q0 := hk.cell 0; have q1 := hk.cell 1; have z0 := hk.frozen 0; have z1 := hk.frozen 1; simp only [List.getElem?_toArray, List.getElem?_cons_zero, List.getElem?_cons_succ] at q0 q1; have hlt2 := hk.lt)
          go_cut [0] (fun s0 wx => s0 = .string v ∧ Below w.heap.size w wx)
          case first =>
            go_wp2_with (go_at_call 100; refine (measure_ref _ _ (by omega)).mono ?_; rintro e w4 ⟨rfl, hb4⟩)
            go_meet
            case rel => exact ⟨by rw [HV.out, HS.out, if_neg HM.out], by (repeat (first | exact Below.refl _ _ | assumption | refine balloc ?_ _ | refine bdrew ?_ | refine bdrewN ?_ _ | refine bset ?_ (by first | assumption | omega) _ | refine bchain ?_ (by assumption)))⟩
          case rest =>
            obtain ⟨rfl, hbel3⟩ := hcut
            rcases hy : sfx v ⟨#[121]⟩ with _ | _
            · have H3 : Hid (s1c v = v) := Lib.hid (by unfold s1c; rw [hy]; rfl)
              go_wp2_with (go_at_call 85; refine (ends_any _ _ _ hv2 (by decide)).mono ?_; rintro e w' ⟨rfl, rfl⟩)
              go_ret
              exact ⟨by rw [← HV.out, H3.out]; rfl, hbel3⟩
            · have hle := sfx_le hy
              have hle1 : 1 ≤ v.size := hle
              obtain ⟨y, hyy⟩ : ∃ y, y = cut v ⟨#[121]⟩ := ⟨_, rfl⟩
              have hex : v.extract 0 (v.size - 1) = y := hyy.symm
              have hys : y.size ≤ 140737488355320 := by rw [hyy, cut_size]; omega
              rcases hvy : hasV y with _ | _
              · have H3 : Hid (s1c v = v) := Lib.hid (by unfold s1c; rw [← hyy, hy, hvy]; rfl)
                clear hyy
                go_wp2_with (first
                  | (go_at_call 85; refine (ends_any _ _ _ hv2 (by decide)).mono ?_; rintro e w' ⟨rfl, rfl⟩)
                  | (go_at_call 101; refine (vowelled_any _ _ (by omega)).mono ?_; rintro e w9 ⟨rfl, hb9⟩))
                go_ret
                exact ⟨by rw [← HV.out, H3.out]; rfl, by (repeat (first | exact Below.refl _ _ | assumption | refine balloc ?_ _ | refine bdrew ?_ | refine bdrewN ?_ _ | refine bset ?_ (by first | assumption | omega) _ | refine bchain ?_ (by assumption)))⟩
              · have H3 : Hid (s1c v = y ++ ⟨#[105]⟩) := Lib.hid (by unfold s1c; rw [← hyy, hy, hvy]; rfl)
                clear hyy
                go_wp2_with (first
                  | (go_at_call 85; refine (ends_any _ _ _ hv2 (by decide)).mono ?_; rintro e w' ⟨rfl, rfl⟩)
                  | (go_at_call 101; refine (vowelled_any _ _ (by omega)).mono ?_; rintro e w9 ⟨rfl, hb9⟩))
                go_ret
                exact ⟨by rw [← HV.out, H3.out]; rfl, by (repeat (first | exact Below.refl _ _ | assumption | refine balloc ?_ _ | refine bdrew ?_ | refine bdrewN ?_ _ | refine bset ?_ (by first | assumption | omega) _ | refine bchain ?_ (by assumption)))⟩
      · have hq' : q = (⟨#[101, 100]⟩, ⟨#[]⟩) := Option.some.inj (hq.symm.trans rfl)
        subst hq'
        have hle1 : 2 ≤ u.size := hle0
        obtain ⟨r, hr⟩ : ∃ r, r = cut u ⟨#[101, 100]⟩ := ⟨_, rfl⟩
        have hre : u.extract 0 (u.size - 2) = r := hr.symm
        have hrs : r.size ≤ 140737488351320 := by rw [hr, cut_size]; omega
        have hms : meas r ≤ r.size := by unfold meas; have := msTo_le r (r.size - 1); omega
        have HS := Lib.hid (s1b_1 hbs)
        rw [← hr] at HS
        clear hr hq hsq
        rcases hvr : hasV r with _ | _
        · go_upto_if 37 with (go_at_call 99; refine (longest_ref u L1b _ _ (wc.heap.size + 1) _ hu1 (by decide) (by decide) (by simp) (slc_new wc _ _)).mono ?_; rintro e w2 ⟨rfl, hb2⟩; have hk := (hblk.alloc (.cells #[.string ⟨#[101, 101, 100]⟩, .string ⟨#[101, 101]⟩, .string ⟨#[101, 100]⟩, .string ⟨#[]⟩, .string ⟨#[105, 110, 103]⟩, .string ⟨#[]⟩] 127)).below hb2 (by have := hblk.lt; simp; omega); have q0 := hk.cell 0; have q1 := hk.cell 1; have z0 := hk.frozen 0; have z1 := hk.frozen 1; simp only [List.getElem?_toArray, List.getElem?_cons_zero, List.getElem?_cons_succ] at q0 q1; have hlt2 := hk.lt)
          go_cut [0] (fun s0 wx => s0 = .string v ∧ Below w.heap.size w wx)
          case first =>
            go_wp2_with (go_at_call 101; refine (vowelled_any _ _ (by omega)).mono ?_; rintro e w4 ⟨rfl, hb4⟩)
            go_meet
            case rel => exact ⟨by rw [HV.out, HS.out, hvr]; rfl, by (repeat (first | exact Below.refl _ _ | assumption | refine balloc ?_ _ | refine bdrew ?_ | refine bdrewN ?_ _ | refine bset ?_ (by first | assumption | omega) _ | refine bchain ?_ (by assumption)))⟩
          case rest =>
            obtain ⟨rfl, hbel3⟩ := hcut
            rcases hy : sfx v ⟨#[121]⟩ with _ | _
            · have H3 : Hid (s1c v = v) := Lib.hid (by unfold s1c; rw [hy]; rfl)
              go_wp2_with (go_at_call 85; refine (ends_any _ _ _ hv2 (by decide)).mono ?_; rintro e w' ⟨rfl, rfl⟩)
              go_ret
              exact ⟨by rw [← HV.out, H3.out]; rfl, hbel3⟩
            · have hle := sfx_le hy
              have hle1 : 1 ≤ v.size := hle
              obtain ⟨y, hyy⟩ : ∃ y, y = cut v ⟨#[121]⟩ := ⟨_, rfl⟩
              have hex : v.extract 0 (v.size - 1) = y := hyy.symm
              have hys : y.size ≤ 140737488355320 := by rw [hyy, cut_size]; omega
              rcases hvy : hasV y with _ | _
              · have H3 : Hid (s1c v = v) := Lib.hid (by unfold s1c; rw [← hyy, hy, hvy]; rfl)
                clear hyy
                go_wp2_with (first
                  | (go_at_call 85; refine (ends_any _ _ _ hv2 (by decide)).mono ?_; rintro e w' ⟨rfl, rfl⟩)
                  | (go_at_call 101; refine (vowelled_any _ _ (by omega)).mono ?_; rintro e w9 ⟨rfl, hb9⟩))
                go_ret
                exact ⟨by rw [← HV.out, H3.out]; rfl, by (repeat (first | exact Below.refl _ _ | assumption | refine balloc ?_ _ | refine bdrew ?_ | refine bdrewN ?_ _ | refine bset ?_ (by first | assumption | omega) _ | refine bchain ?_ (by assumption)))⟩
              · have H3 : Hid (s1c v = y ++ ⟨#[105]⟩) := Lib.hid (by unfold s1c; rw [← hyy, hy, hvy]; rfl)
                clear hyy
                go_wp2_with (first
                  | (go_at_call 85; refine (ends_any _ _ _ hv2 (by decide)).mono ?_; rintro e w' ⟨rfl, rfl⟩)
                  | (go_at_call 101; refine (vowelled_any _ _ (by omega)).mono ?_; rintro e w9 ⟨rfl, hb9⟩))
                go_ret
                exact ⟨by rw [← HV.out, H3.out]; rfl, by (repeat (first | exact Below.refl _ _ | assumption | refine balloc ?_ _ | refine bdrew ?_ | refine bdrewN ?_ _ | refine bset ?_ (by first | assumption | omega) _ | refine bchain ?_ (by assumption)))⟩
        · go_upto_if 37 with (go_at_call 99; refine (longest_ref u L1b _ _ (wc.heap.size + 1) _ hu1 (by decide) (by decide) (by simp) (slc_new wc _ _)).mono ?_; rintro e w2 ⟨rfl, hb2⟩; have hk := (hblk.alloc (.cells #[.string ⟨#[101, 101, 100]⟩, .string ⟨#[101, 101]⟩, .string ⟨#[101, 100]⟩, .string ⟨#[]⟩, .string ⟨#[105, 110, 103]⟩, .string ⟨#[]⟩] 127)).below hb2 (by have := hblk.lt; simp; omega); have q0 := hk.cell 0; have q1 := hk.cell 1; have z0 := hk.frozen 0; have z1 := hk.frozen 1; simp only [List.getElem?_toArray, List.getElem?_cons_zero, List.getElem?_cons_succ] at q0 q1; have hlt2 := hk.lt)
          go_cut [0] (fun s0 wx => s0 = .string v ∧ Below w.heap.size w wx)
          case first =>
            go_wp2_with (first
              | (go_at_call 101; refine (vowelled_any _ _ (by omega)).mono ?_; rintro e w4 ⟨rfl, hb4⟩)
              | (go_at_call 102; refine (mended_any _ _ (by omega)).mono ?_; rintro e w5 ⟨rfl, hb5⟩))
            go_meet
            case rel => exact ⟨by rw [HV.out, HS.out, hvr]; rfl, by (repeat (first | exact Below.refl _ _ | assumption | refine balloc ?_ _ | refine bdrew ?_ | refine bdrewN ?_ _ | refine bset ?_ (by first | assumption | omega) _ | refine bchain ?_ (by assumption)))⟩
          case rest =>
            obtain ⟨rfl, hbel3⟩ := hcut
            rcases hy : sfx v ⟨#[121]⟩ with _ | _
            · have H3 : Hid (s1c v = v) := Lib.hid (by unfold s1c; rw [hy]; rfl)
              go_wp2_with (go_at_call 85; refine (ends_any _ _ _ hv2 (by decide)).mono ?_; rintro e w' ⟨rfl, rfl⟩)
              go_ret
              exact ⟨by rw [← HV.out, H3.out]; rfl, hbel3⟩
            · have hle := sfx_le hy
              have hle1 : 1 ≤ v.size := hle
              obtain ⟨y, hyy⟩ : ∃ y, y = cut v ⟨#[121]⟩ := ⟨_, rfl⟩
              have hex : v.extract 0 (v.size - 1) = y := hyy.symm
              have hys : y.size ≤ 140737488355320 := by rw [hyy, cut_size]; omega
              rcases hvy : hasV y with _ | _
              · have H3 : Hid (s1c v = v) := Lib.hid (by unfold s1c; rw [← hyy, hy, hvy]; rfl)
                clear hyy
                go_wp2_with (first
                  | (go_at_call 85; refine (ends_any _ _ _ hv2 (by decide)).mono ?_; rintro e w' ⟨rfl, rfl⟩)
                  | (go_at_call 101; refine (vowelled_any _ _ (by omega)).mono ?_; rintro e w9 ⟨rfl, hb9⟩))
                go_ret
                exact ⟨by rw [← HV.out, H3.out]; rfl, by (repeat (first | exact Below.refl _ _ | assumption | refine balloc ?_ _ | refine bdrew ?_ | refine bdrewN ?_ _ | refine bset ?_ (by first | assumption | omega) _ | refine bchain ?_ (by assumption)))⟩
              · have H3 : Hid (s1c v = y ++ ⟨#[105]⟩) := Lib.hid (by unfold s1c; rw [← hyy, hy, hvy]; rfl)
                clear hyy
                go_wp2_with (first
                  | (go_at_call 85; refine (ends_any _ _ _ hv2 (by decide)).mono ?_; rintro e w' ⟨rfl, rfl⟩)
                  | (go_at_call 101; refine (vowelled_any _ _ (by omega)).mono ?_; rintro e w9 ⟨rfl, hb9⟩))
                go_ret
                exact ⟨by rw [← HV.out, H3.out]; rfl, by (repeat (first | exact Below.refl _ _ | assumption | refine balloc ?_ _ | refine bdrew ?_ | refine bdrewN ?_ _ | refine bset ?_ (by first | assumption | omega) _ | refine bchain ?_ (by assumption)))⟩
      · have hq' : q = (⟨#[105, 110, 103]⟩, ⟨#[]⟩) := Option.some.inj (hq.symm.trans rfl)
        subst hq'
        have hle1 : 3 ≤ u.size := hle0
        obtain ⟨r, hr⟩ : ∃ r, r = cut u ⟨#[105, 110, 103]⟩ := ⟨_, rfl⟩
        have hre : u.extract 0 (u.size - 3) = r := hr.symm
        have hrs : r.size ≤ 140737488351320 := by rw [hr, cut_size]; omega
        have hms : meas r ≤ r.size := by unfold meas; have := msTo_le r (r.size - 1); omega
        have HS := Lib.hid (s1b_2 hbs)
        rw [← hr] at HS
        clear hr hq hsq
        rcases hvr : hasV r with _ | _
        · go_upto_if 37 with (go_at_call 99; refine (longest_ref u L1b _ _ (wc.heap.size + 1) _ hu1 (by decide) (by decide) (by simp) (slc_new wc _ _)).mono ?_; rintro e w2 ⟨rfl, hb2⟩; have hk := (hblk.alloc (.cells #[.string ⟨#[101, 101, 100]⟩, .string ⟨#[101, 101]⟩, .string ⟨#[101, 100]⟩, .string ⟨#[]⟩, .string ⟨#[105, 110, 103]⟩, .string ⟨#[]⟩] 127)).below hb2 (by have := hblk.lt; simp; omega); have q0 := hk.cell 0; have q1 := hk.cell 1; have z0 := hk.frozen 0; have z1 := hk.frozen 1; simp only [List.getElem?_toArray, List.getElem?_cons_zero, List.getElem?_cons_succ] at q0 q1; have hlt2 := hk.lt)
          go_cut [0] (fun s0 wx => s0 = .string v ∧ Below w.heap.size w wx)
          case first =>
            go_wp2_with (go_at_call 101; refine (vowelled_any _ _ (by omega)).mono ?_; rintro e w4 ⟨rfl, hb4⟩)
            go_meet
            case rel => exact ⟨by rw [HV.out, HS.out, hvr]; rfl, by (repeat (first | exact Below.refl _ _ | assumption | refine balloc ?_ _ | refine bdrew ?_ | refine bdrewN ?_ _ | refine bset ?_ (by first | assumption | omega) _ | refine bchain ?_ (by assumption)))⟩
          case rest =>
            obtain ⟨rfl, hbel3⟩ := hcut
            rcases hy : sfx v ⟨#[121]⟩ with _ | _
            · have H3 : Hid (s1c v = v) := Lib.hid (by unfold s1c; rw [hy]; rfl)
              go_wp2_with (go_at_call 85; refine (ends_any _ _ _ hv2 (by decide)).mono ?_; rintro e w' ⟨rfl, rfl⟩)
              go_ret
              exact ⟨by rw [← HV.out, H3.out]; rfl, hbel3⟩
            · have hle := sfx_le hy
              have hle1 : 1 ≤ v.size := hle
              obtain ⟨y, hyy⟩ : ∃ y, y = cut v ⟨#[121]⟩ := ⟨_, rfl⟩
              have hex : v.extract 0 (v.size - 1) = y := hyy.symm
              have hys : y.size ≤ 140737488355320 := by rw [hyy, cut_size]; omega
              rcases hvy : hasV y with _ | _
              · have H3 : Hid (s1c v = v) := Lib.hid (by unfold s1c; rw [← hyy, hy, hvy]; rfl)
                clear hyy
                go_wp2_with (first
                  | (go_at_call 85; refine (ends_any _ _ _ hv2 (by decide)).mono ?_; rintro e w' ⟨rfl, rfl⟩)
                  | (go_at_call 101; refine (vowelled_any _ _ (by omega)).mono ?_; rintro e w9 ⟨rfl, hb9⟩))
                go_ret
                exact ⟨by rw [← HV.out, H3.out]; rfl, by (repeat (first | exact Below.refl _ _ | assumption | refine balloc ?_ _ | refine bdrew ?_ | refine bdrewN ?_ _ | refine bset ?_ (by first | assumption | omega) _ | refine bchain ?_ (by assumption)))⟩
              · have H3 : Hid (s1c v = y ++ ⟨#[105]⟩) := Lib.hid (by unfold s1c; rw [← hyy, hy, hvy]; rfl)
                clear hyy
                go_wp2_with (first
                  | (go_at_call 85; refine (ends_any _ _ _ hv2 (by decide)).mono ?_; rintro e w' ⟨rfl, rfl⟩)
                  | (go_at_call 101; refine (vowelled_any _ _ (by omega)).mono ?_; rintro e w9 ⟨rfl, hb9⟩))
                go_ret
                exact ⟨by rw [← HV.out, H3.out]; rfl, by (repeat (first | exact Below.refl _ _ | assumption | refine balloc ?_ _ | refine bdrew ?_ | refine bdrewN ?_ _ | refine bset ?_ (by first | assumption | omega) _ | refine bchain ?_ (by assumption)))⟩
        · go_upto_if 37 with (go_at_call 99; refine (longest_ref u L1b _ _ (wc.heap.size + 1) _ hu1 (by decide) (by decide) (by simp) (slc_new wc _ _)).mono ?_; rintro e w2 ⟨rfl, hb2⟩; have hk := (hblk.alloc (.cells #[.string ⟨#[101, 101, 100]⟩, .string ⟨#[101, 101]⟩, .string ⟨#[101, 100]⟩, .string ⟨#[]⟩, .string ⟨#[105, 110, 103]⟩, .string ⟨#[]⟩] 127)).below hb2 (by have := hblk.lt; simp; omega); have q0 := hk.cell 0; have q1 := hk.cell 1; have z0 := hk.frozen 0; have z1 := hk.frozen 1; simp only [List.getElem?_toArray, List.getElem?_cons_zero, List.getElem?_cons_succ] at q0 q1; have hlt2 := hk.lt)
          go_cut [0] (fun s0 wx => s0 = .string v ∧ Below w.heap.size w wx)
          case first =>
            go_wp2_with (first
              | (go_at_call 101; refine (vowelled_any _ _ (by omega)).mono ?_; rintro e w4 ⟨rfl, hb4⟩)
              | (go_at_call 102; refine (mended_any _ _ (by omega)).mono ?_; rintro e w5 ⟨rfl, hb5⟩))
            go_meet
            case rel => exact ⟨by rw [HV.out, HS.out, hvr]; rfl, by (repeat (first | exact Below.refl _ _ | assumption | refine balloc ?_ _ | refine bdrew ?_ | refine bdrewN ?_ _ | refine bset ?_ (by first | assumption | omega) _ | refine bchain ?_ (by assumption)))⟩
          case rest =>
            obtain ⟨rfl, hbel3⟩ := hcut
            rcases hy : sfx v ⟨#[121]⟩ with _ | _
            · have H3 : Hid (s1c v = v) := Lib.hid (by unfold s1c; rw [hy]; rfl)
              go_wp2_with (go_at_call 85; refine (ends_any _ _ _ hv2 (by decide)).mono ?_; rintro e w' ⟨rfl, rfl⟩)
              go_ret
              exact ⟨by rw [← HV.out, H3.out]; rfl, hbel3⟩
            · have hle := sfx_le hy
              have hle1 : 1 ≤ v.size := hle
              obtain ⟨y, hyy⟩ : ∃ y, y = cut v ⟨#[121]⟩ := ⟨_, rfl⟩
              have hex : v.extract 0 (v.size - 1) = y := hyy.symm
              have hys : y.size ≤ 140737488355320 := by rw [hyy, cut_size]; omega
              rcases hvy : hasV y with _ | _
              · have H3 : Hid (s1c v = v) := Lib.hid (by unfold s1c; rw [← hyy, hy, hvy]; rfl)
                clear hyy
                go_wp2_with (first
                  | (go_at_call 85; refine (ends_any _ _ _ hv2 (by decide)).mono ?_; rintro e w' ⟨rfl, rfl⟩)
                  | (go_at_call 101; refine (vowelled_any _ _ (by omega)).mono ?_; rintro e w9 ⟨rfl, hb9⟩))
                go_ret
                exact ⟨by rw [← HV.out, H3.out]; rfl, by (repeat (first | exact Below.refl _ _ | assumption | refine balloc ?_ _ | refine bdrew ?_ | refine bdrewN ?_ _ | refine bset ?_ (by first | assumption | omega) _ | refine bchain ?_ (by assumption)))⟩
              · have H3 : Hid (s1c v = y ++ ⟨#[105]⟩) := Lib.hid (by unfold s1c; rw [← hyy, hy, hvy]; rfl)
                clear hyy
                go_wp2_with (first
                  | (go_at_call 85; refine (ends_any _ _ _ hv2 (by decide)).mono ?_; rintro e w' ⟨rfl, rfl⟩)
                  | (go_at_call 101; refine (vowelled_any _ _ (by omega)).mono ?_; rintro e w9 ⟨rfl, hb9⟩))
                go_ret
                exact ⟨by rw [← HV.out, H3.out]; rfl, by (repeat (first | exact Below.refl _ _ | assumption | refine balloc ?_ _ | refine bdrew ?_ | refine bdrewN ?_ _ | refine bset ?_ (by first | assumption | omega) _ | refine bchain ?_ (by assumption)))⟩
end Go.Proofs.YtmoahflgcojfcaaDoor.RefFirst

namespace Go.Proofs.YtmoahflgcojfcaaDoor.RefMiddle
set_option maxRecDepth 100000
open Go.RowKit Go.PlainAid StemPlain StemSize Base Vowels StemWalk StemWalk2 RefForm RefShort RefLongest
open StemWalk6 (s4_ion s4_else l4_other toList_data)

theorem ruleElem : Elem Tryd.prog 130 127 (.agg #[.string ⟨#[]⟩, .string ⟨#[]⟩]) 2 32 := .mk_ (by kernel_rfl) (by kernel_rfl) rfl (by decide)

theorem own_ne {w : World} {base : Nat} {e t : TypeId} {size n g : Nat} {v : Value} {xs : List Value} {cs : Array Value} (h : w.ownsRow base e size v n xs) (hg : Blk w g t cs) (hne : e ≠ t) : some g ≠ v.ownBlock := by
  rcases h.2 with ⟨rfl, _⟩ | ⟨g', cap, cur, rfl, _, hh, _⟩
  · simp [Value.ownBlock]
  · intro he
    have : g = g' := by simpa [Value.ownBlock] using he
    subst this
    unfold Blk at hg
    rw [hh] at hg
    injection hg with hg
    injection hg with _ ht
    exact hne ht

theorem pairCells_append (a b : PL) : pairCells (a ++ b) = pairCells a ++ pairCells b := by
  induction a with
  | nil => rfl
  | cons p r ih => simp [pairCells, ih]
theorem l4_snd : ∀ p ∈ L4, p.2 = ⟨#[]⟩ := by
  intro p hp
  simp only [L4, List.mem_cons, List.not_mem_nil, or_false] at hp
  rcases hp with h | h | h | h | h | h | h | h | h | h | h | h | h | h | h | h | h | h | h <;> rw [h]
theorem take_step {k : Nat} {p} (h : L4[k]? = some p) : pairCells (L4.take (k + 1)) = pairCells (L4.take k) ++ [.string p.1, .string ⟨#[]⟩] := by
  have hl : k < L4.length := (List.getElem?_eq_some_iff.1 h).1
  rw [List.take_succ_eq_append_getElem hl, pairCells_append]
  have hp : L4[k] = p := (List.getElem?_eq_some_iff.1 h).2
  rw [hp]
  have := l4_snd p (List.mem_of_getElem? h)
  simp [pairCells, this]

def ends4 : Array Value := (L4.map fun p => Value.string p.1).toArray
theorem ends4_at {k : Nat} {p} (h : L4[k]? = some p) : ends4[k]? = some (.string p.1) := by
  unfold ends4
  rw [List.getElem?_toArray, List.getElem?_map, h]
  rfl

set_option maxHeartbeats 8000000 in
theorem middle_any (s : ByteArray) (w : World) (hs : s.size ≤ 140737488355300) :
    Calls Tryd.prog 87 #[.string s] w fun e w' => e = .returned (.string (s4 (rep (rep s L2 0) L3 0))) ∧ Below w.heap.size w w' := by
  have hs1 : s.size ≤ 140737488355327 := by omega
  obtain ⟨u1, hu1⟩ : ∃ u, u = rep s L2 0 := ⟨_, rfl⟩
  have z1 : u1.size ≤ s.size + 10 := by rw [hu1]; exact rep_size (by decide)
  obtain ⟨u, hu⟩ : ∃ u, u = rep u1 L3 0 := ⟨_, rfl⟩
  have z2 : u.size ≤ u1.size + 10 := by rw [hu]; exact rep_size (by decide)
  have hz1 : u1.size ≤ 140737488355327 := by omega
  have hz2 : u.size ≤ 140737488355327 := by omega
  have hz3 : u.size ≤ 281474976710656 := by omega
  rw [← hu1, ← hu]
  have HU1 := Lib.hid hu1
  have HU := Lib.hid hu
  clear hu1 hu
  go_enter Tryd.func87, Tryd.ntmps87
  go_wp2_with fail
  refine (measured_any s L2 _ _ (w.heap.size + 1) 0 _ hs1 (by decide) (by decide) (by decide) (by simp) (slc_new w _ _)).mono ?_
  rintro e w1 ⟨rfl, hb1⟩
  rw [← HU1.out]
  go_wp2_with fail
  refine (measured_any u1 L3 _ _ (w1.heap.size + 1) 0 _ hz1 (by decide) (by decide) (by decide) (by simp) (slc_new w1 _ _)).mono ?_
  rintro e w2 ⟨rfl, hb2⟩
  rw [← HU.out]
  go_wp2_with fail
  have hbw : Below w.heap.size w w2 := by (repeat (first | exact Below.refl _ _ | assumption | refine balloc ?_ _ | refine bdrew ?_ | refine bdrewN ?_ _ | refine bchain ?_ (by assumption)))
  have hw2 : w.heap.size ≤ w2.heap.size := hbw.size
  go_loopw [3, 45] (fun v i wr => ∃ k : Nat, k ≤ 19 ∧ i = .int .i64 k ∧ wr.ownsRow w.heap.size 127 2 v k (pairCells (L4.take k)) ∧ Below w.heap.size w wr ∧ Blk wr (w2.heap.size + 1) 9 ends4) (fun _ i _ => 19 - (intOf i).toNat)
  case atStart =>
    refine ⟨0, by omega, rfl, ?_, by (repeat (first | exact Below.refl _ _ | assumption | refine balloc ?_ _ | refine bdrew ?_ | refine bdrewN ?_ _ | refine bchain ?_ (by assumption))), ?_⟩
    · exact (World.ownsRow_lit w2 #[] 0 hw2 (by decide) rfl).alloc _
    · have := Blk.new (w2.alloc (.cells #[] 127)) 9 ends4
      rw [show (w2.alloc (.cells #[] 127)).heap.size = w2.heap.size + 1 by simp] at this
      exact this
  case round =>
    obtain ⟨k, hk, rfl, hown, hbel, hblk⟩ := hrel
    obtain ⟨A, c, rfl⟩ := own_slice hown
    have hsz := hbel.size
    by_cases hlt : k < 19
    · obtain ⟨p, hp⟩ : ∃ p, L4[k]? = some p := ⟨_, List.getElem?_eq_getElem hlt⟩
      have c0 := hblk.cell k
      rw [ends4_at hp] at c0
      have hlt2 := hblk.lt
      have HT := Lib.hid (take_step hp)
      clear hp
      go_wp2_with (at_builtin; refine wpList_append1 rfl _ _ rfl ruleElem hown rfl rfl rfl rfl (by omega) (by unfold maxLen; omega) hsz ?_)
      intro v' w3 hown' hg hbel'
      have hbel1 := hbel' _ hbel
      have hblk1 := hblk.grown hg (own_ne hown hblk (by decide))
      clear hbel' hown hg hblk
      go_wp2
      go_roundw
      case rel => exact ⟨k + 1, by omega, by go_num, by rw [HT.out]; exact hown', hbel1, hblk1⟩
      case measure => simp [intOf]; omega
    · obtain rfl : k = 19 := by omega
      have hA : Slc wr wr.heap.size A (pairCells L4) := slc_own hown
      have hbm : Below wr.heap.size wr wr := Below.refl _ _
      rcases hbs : bst u L4 L4.length with _ | j
      · have HN := Lib.hid (s4_else (s := u) (by rw [hbs]; simp))
        have HB := Lib.hid hbs
        clear hbs hown
        go_wp2_with (first
          | (go_at_call 99; refine (longest_ref_none _ _ wr.heap.size _ hz2 (by decide) (by decide) (Nat.le_refl _) hA HB.out).mono ?_; rintro e w4 ⟨rfl, hb4⟩)
          | (go_at_call 103; refine (measured_any u L4 _ _ wr.heap.size 1 _ hz2 (by decide) (by decide) (by decide) (balloc hb4 _).size (hA.below (balloc hb4 _) (Nat.le_refl _))).mono ?_; rintro e w5 ⟨rfl, hb5⟩))
        go_ret
        exact ⟨ret_str HN.out.symm, by (repeat (first | exact Below.refl _ _ | assumption | refine balloc ?_ _ | refine bdrew ?_ | refine bdrewN ?_ _ | refine bchain ?_ (by assumption)))⟩
      · obtain ⟨hjk, q, hq, hsq⟩ := bst_lt u L4 L4.length j hbs
        have hj : j < 19 := hjk
        have HB := Lib.hid hbs
        have HQ := Lib.hid hq
        have hle := sfx_le hsq
        have hcs : (cut u q.1).size ≤ 281474976710656 := by rw [cut_size]; omega
        by_cases h11 : j = 11
        · subst h11
          have hq' : q = (⟨#[105, 111, 110]⟩, ⟨#[]⟩) := Option.some.inj (hq.symm.trans rfl)
          subst hq'
          have hcs2 : (cut u ⟨#[105, 111, 110]⟩).size ≤ 281474976710656 := hcs
          rcases hs1' : sfx (cut u ⟨#[105, 111, 110]⟩) ⟨#[115]⟩ with _ | _
          · rcases ht1 : sfx (cut u ⟨#[105, 111, 110]⟩) ⟨#[116]⟩ with _ | _
            · have HN := Lib.hid (s4_ion hbs hs1' ht1)
              clear hbs hq hsq hcs hown
              go_wp2_with (first
                | (go_at_call 99; refine (longest_ref_some _ _ wr.heap.size _ hz2 (by decide) (by decide) (Nat.le_refl _) hA HB.out HQ.out).mono ?_; rintro e w4 ⟨rfl, hb4⟩)
                | (go_at_call 85; refine (ends_any _ _ _ hcs2 (by decide)).mono ?_; rintro e w' ⟨rfl, rfl⟩)
                | (go_at_call 103; refine (measured_any u L4 _ _ wr.heap.size 1 _ hz2 (by decide) (by decide) (by decide) (balloc hb4 _).size (hA.below (balloc hb4 _) (Nat.le_refl _))).mono ?_; rintro e w5 ⟨rfl, hb5⟩))
              go_ret
              exact ⟨ret_str HN.out.symm, by (repeat (first | exact Below.refl _ _ | assumption | refine balloc ?_ _ | refine bdrew ?_ | refine bdrewN ?_ _ | refine bchain ?_ (by assumption)))⟩
            · have HN := Lib.hid (s4_else (s := u) (by rw [ht1]; simp))
              clear hbs hq hsq hcs hown
              go_wp2_with (first
                | (go_at_call 99; refine (longest_ref_some _ _ wr.heap.size _ hz2 (by decide) (by decide) (Nat.le_refl _) hA HB.out HQ.out).mono ?_; rintro e w4 ⟨rfl, hb4⟩)
                | (go_at_call 85; refine (ends_any _ _ _ hcs2 (by decide)).mono ?_; rintro e w' ⟨rfl, rfl⟩)
                | (go_at_call 103; refine (measured_any u L4 _ _ wr.heap.size 1 _ hz2 (by decide) (by decide) (by decide) (balloc hb4 _).size (hA.below (balloc hb4 _) (Nat.le_refl _))).mono ?_; rintro e w5 ⟨rfl, hb5⟩))
              go_ret
              exact ⟨ret_str HN.out.symm, by (repeat (first | exact Below.refl _ _ | assumption | refine balloc ?_ _ | refine bdrew ?_ | refine bdrewN ?_ _ | refine bchain ?_ (by assumption)))⟩
          · have HN := Lib.hid (s4_else (s := u) (by rw [hs1']; simp))
            clear hbs hq hsq hcs hown
            go_wp2_with (first
              | (go_at_call 99; refine (longest_ref_some _ _ wr.heap.size _ hz2 (by decide) (by decide) (Nat.le_refl _) hA HB.out HQ.out).mono ?_; rintro e w4 ⟨rfl, hb4⟩)
              | (go_at_call 85; refine (ends_any _ _ _ hcs2 (by decide)).mono ?_; rintro e w' ⟨rfl, rfl⟩)
              | (go_at_call 103; refine (measured_any u L4 _ _ wr.heap.size 1 _ hz2 (by decide) (by decide) (by decide) (balloc hb4 _).size (hA.below (balloc hb4 _) (Nat.le_refl _))).mono ?_; rintro e w5 ⟨rfl, hb5⟩))
            go_ret
            exact ⟨ret_str HN.out.symm, by (repeat (first | exact Below.refl _ _ | assumption | refine balloc ?_ _ | refine bdrew ?_ | refine bdrewN ?_ _ | refine bchain ?_ (by assumption)))⟩
        · have HN := Lib.hid (s4_else (s := u) (by rw [hbs]; simp [h11]))
          have hcs2 : (cut u q.1).size ≤ 281474976710656 := hcs
          have hion : (q.1.toList == [105, 111, 110]) = false := by
            have := l4_other j hj h11
            rw [hq] at this
            rw [toList_data]
            exact Option.some.inj this
          clear hbs hq hsq hown
          go_wp2_with (first
            | (go_at_call 99; refine (longest_ref_some _ _ wr.heap.size _ hz2 (by decide) (by decide) (Nat.le_refl _) hA HB.out HQ.out).mono ?_; rintro e w4 ⟨rfl, hb4⟩)
            | (go_at_call 85; refine (ends_any _ _ _ hcs2 (by decide)).mono ?_; rintro e w' ⟨rfl, rfl⟩)
            | (go_at_call 103; refine (measured_any u L4 _ _ wr.heap.size 1 _ hz2 (by decide) (by decide) (by decide) (balloc hb4 _).size (hA.below (balloc hb4 _) (Nat.le_refl _))).mono ?_; rintro e w5 ⟨rfl, hb5⟩))
          go_ret
          exact ⟨ret_str HN.out.symm, by (repeat (first | exact Below.refl _ _ | assumption | refine balloc ?_ _ | refine bdrew ?_ | refine bdrewN ?_ _ | refine bchain ?_ (by assumption)))⟩
end Go.Proofs.YtmoahflgcojfcaaDoor.RefMiddle

namespace Go.Proofs.YtmoahflgcojfcaaDoor.RefLast
set_option maxRecDepth 100000
open Go.RowKit Go.PlainAid StemPlain StemSize Base Vowels StemWalk StemWalk2 StemWalk3 StemWalk7 RefForm RefShort RefLongest

set_option maxHeartbeats 8000000 in
theorem last_any (s : ByteArray) (w : World) (hs : s.size ≤ 140737488355327) :
    Calls Tryd.prog 88 #[.string s] w fun r w' => r = .returned (.string (s5b (s5a s))) ∧ Below w.heap.size w w' := by
  have hcs : (cut s ⟨#[101]⟩).size ≤ 140737488355327 := by rw [cut_size]; omega
  obtain ⟨r, hr⟩ : ∃ r, r = cut s ⟨#[101]⟩ := ⟨_, rfl⟩
  have hms := meas_lt r
  have hs2 : s.size ≤ 281474976710656 := by omega
  have hmu := meas_lt s
  rw [← hr] at hcs
  have hcs2 : r.size ≤ 281474976710656 := by omega
  rcases hx : sfx s ⟨#[101]⟩ with _ | _
  · have HX := Lib.hid hx
    have HA := Lib.hid (s5a_no hx)
    clear hr
    rcases hll : sfx s ⟨#[108, 108]⟩ with _ | _
    · have HBB := Lib.hid (s5b_no hll)
      go_enter Tryd.func88, Tryd.ntmps88
      go_wp2_with (first
        | (go_at_call_of 100 (Value.string r); refine (measure_ref r _ hcs).mono ?_; rintro e wA ⟨rfl, hA⟩)
        | (go_at_call_of 100 (Value.string s); refine (measure_ref s _ hs).mono ?_; rintro e wB ⟨rfl, hB⟩)
        | (go_at_call 104; refine (short_any r _ hcs).mono ?_; rintro e wC ⟨rfl, hC⟩)
        | (go_at_call 85; refine (ends_any _ _ _ (by (first | exact hs2 | exact hcs2)) (by decide)).mono ?_; rintro e w' ⟨rfl, rfl⟩))
      all_goals (try (exfalso; omega))
      all_goals
        go_ret
        refine ⟨ret_str ?_, by (repeat (first | exact Below.refl _ _ | assumption | refine balloc ?_ _ | refine bdrew ?_ | refine bdrewN ?_ _ | refine bchain ?_ (by assumption)))⟩
        rw [HA.out, HBB.out]
    · have hle := sfx_le hll
      have hle2 : 2 ≤ s.size := hle
      by_cases hm2 : 1 < meas s
      · have HBB := Lib.hid (s5b_yes hll hm2)
        have hm2i : (1 : Int) < ((meas s : Nat) : Int) := by omega
        clear hm2
        go_enter Tryd.func88, Tryd.ntmps88
        go_wp2_with (first
          | (go_at_call_of 100 (Value.string r); refine (measure_ref r _ hcs).mono ?_; rintro e wA ⟨rfl, hA⟩)
          | (go_at_call_of 100 (Value.string s); refine (measure_ref s _ hs).mono ?_; rintro e wB ⟨rfl, hB⟩)
          | (go_at_call 104; refine (short_any r _ hcs).mono ?_; rintro e wC ⟨rfl, hC⟩)
          | (go_at_call 85; refine (ends_any _ _ _ (by (first | exact hs2 | exact hcs2)) (by decide)).mono ?_; rintro e w' ⟨rfl, rfl⟩))
        all_goals (try (exfalso; omega))
        all_goals
          go_ret
          refine ⟨ret_str ?_, by (repeat (first | exact Below.refl _ _ | assumption | refine balloc ?_ _ | refine bdrew ?_ | refine bdrewN ?_ _ | refine bchain ?_ (by assumption)))⟩
          rw [HA.out, HBB.out]
          first | rfl | exact HRE.out.symm
      · have HBB := Lib.hid (s5b_low hm2)
        have hm2i : ¬ (1 : Int) < ((meas s : Nat) : Int) := by omega
        clear hm2
        go_enter Tryd.func88, Tryd.ntmps88
        go_wp2_with (first
          | (go_at_call_of 100 (Value.string r); refine (measure_ref r _ hcs).mono ?_; rintro e wA ⟨rfl, hA⟩)
          | (go_at_call_of 100 (Value.string s); refine (measure_ref s _ hs).mono ?_; rintro e wB ⟨rfl, hB⟩)
          | (go_at_call 104; refine (short_any r _ hcs).mono ?_; rintro e wC ⟨rfl, hC⟩)
          | (go_at_call 85; refine (ends_any _ _ _ (by (first | exact hs2 | exact hcs2)) (by decide)).mono ?_; rintro e w' ⟨rfl, rfl⟩))
        all_goals (try (exfalso; omega))
        all_goals
          go_ret
          refine ⟨ret_str ?_, by (repeat (first | exact Below.refl _ _ | assumption | refine balloc ?_ _ | refine bdrew ?_ | refine bdrewN ?_ _ | refine bchain ?_ (by assumption)))⟩
          rw [HA.out, HBB.out]
  · have HX := Lib.hid hx
    have HR := Lib.hid hr
    have hle1 := sfx_le hx
    have hle0 : 1 ≤ s.size := hle1
    have hre : s.extract 0 (s.size - 1) = r := hr.symm
    have HRE := Lib.hid hre
    by_cases hm : 1 < meas r
    · have HA := Lib.hid (s5a_high hx (by rw [← hr]; exact hm))
      rw [← hr] at HA
      have hmi : (1 : Int) < ((meas r : Nat) : Int) := by omega
      clear hr hm
      rcases hll : sfx r ⟨#[108, 108]⟩ with _ | _
      · have HBB := Lib.hid (s5b_no hll)
        go_enter Tryd.func88, Tryd.ntmps88
        go_wp2_with (first
          | (go_at_call_of 100 (Value.string r); refine (measure_ref r _ hcs).mono ?_; rintro e wA ⟨rfl, hA⟩)
          | (go_at_call_of 100 (Value.string s); refine (measure_ref s _ hs).mono ?_; rintro e wB ⟨rfl, hB⟩)
          | (go_at_call 104; refine (short_any r _ hcs).mono ?_; rintro e wC ⟨rfl, hC⟩)
          | (go_at_call 85; refine (ends_any _ _ _ (by (first | exact hs2 | exact hcs2)) (by decide)).mono ?_; rintro e w' ⟨rfl, rfl⟩))
        all_goals (try (exfalso; omega))
        all_goals
          go_ret
          refine ⟨ret_str ?_, by (repeat (first | exact Below.refl _ _ | assumption | refine balloc ?_ _ | refine bdrew ?_ | refine bdrewN ?_ _ | refine bchain ?_ (by assumption)))⟩
          rw [HA.out, HBB.out]
      · have hle := sfx_le hll
        have hle2 : 2 ≤ r.size := hle
        by_cases hm2 : 1 < meas r
        · have HBB := Lib.hid (s5b_yes hll hm2)
          have hm2i : (1 : Int) < ((meas r : Nat) : Int) := by omega
          clear hm2
          go_enter Tryd.func88, Tryd.ntmps88
          go_wp2_with (first
            | (go_at_call_of 100 (Value.string r); refine (measure_ref r _ hcs).mono ?_; rintro e wA ⟨rfl, hA⟩)
            | (go_at_call_of 100 (Value.string s); refine (measure_ref s _ hs).mono ?_; rintro e wB ⟨rfl, hB⟩)
            | (go_at_call 104; refine (short_any r _ hcs).mono ?_; rintro e wC ⟨rfl, hC⟩)
            | (go_at_call 85; refine (ends_any _ _ _ (by (first | exact hs2 | exact hcs2)) (by decide)).mono ?_; rintro e w' ⟨rfl, rfl⟩))
          all_goals (try (exfalso; omega))
          all_goals
            go_ret
            refine ⟨ret_str ?_, by (repeat (first | exact Below.refl _ _ | assumption | refine balloc ?_ _ | refine bdrew ?_ | refine bdrewN ?_ _ | refine bchain ?_ (by assumption)))⟩
            rw [HA.out, HBB.out]
            first | rfl | exact HRE.out.symm
        · have HBB := Lib.hid (s5b_low hm2)
          have hm2i : ¬ (1 : Int) < ((meas r : Nat) : Int) := by omega
          clear hm2
          go_enter Tryd.func88, Tryd.ntmps88
          go_wp2_with (first
            | (go_at_call_of 100 (Value.string r); refine (measure_ref r _ hcs).mono ?_; rintro e wA ⟨rfl, hA⟩)
            | (go_at_call_of 100 (Value.string s); refine (measure_ref s _ hs).mono ?_; rintro e wB ⟨rfl, hB⟩)
            | (go_at_call 104; refine (short_any r _ hcs).mono ?_; rintro e wC ⟨rfl, hC⟩)
            | (go_at_call 85; refine (ends_any _ _ _ (by (first | exact hs2 | exact hcs2)) (by decide)).mono ?_; rintro e w' ⟨rfl, rfl⟩))
          all_goals (try (exfalso; omega))
          all_goals
            go_ret
            refine ⟨ret_str ?_, by (repeat (first | exact Below.refl _ _ | assumption | refine balloc ?_ _ | refine bdrew ?_ | refine bdrewN ?_ _ | refine bchain ?_ (by assumption)))⟩
            rw [HA.out, HBB.out]
    · by_cases hm1 : meas r = 1
      · have hmi : ¬ (1 : Int) < ((meas r : Nat) : Int) := by omega
        have hmj : (((meas r : Nat) : Int) == 1) = true := by simp; omega
        rcases hsh : shrt r with _ | _
        · have HA := Lib.hid (s5a_one hx (by rw [← hr]; exact hm1) (by rw [← hr]; exact hsh))
          rw [← hr] at HA
          clear hr hm hm1
          rcases hll : sfx r ⟨#[108, 108]⟩ with _ | _
          · have HBB := Lib.hid (s5b_no hll)
            go_enter Tryd.func88, Tryd.ntmps88
            go_wp2_with (first
              | (go_at_call_of 100 (Value.string r); refine (measure_ref r _ hcs).mono ?_; rintro e wA ⟨rfl, hA⟩)
              | (go_at_call_of 100 (Value.string s); refine (measure_ref s _ hs).mono ?_; rintro e wB ⟨rfl, hB⟩)
              | (go_at_call 104; refine (short_any r _ hcs).mono ?_; rintro e wC ⟨rfl, hC⟩)
              | (go_at_call 85; refine (ends_any _ _ _ (by (first | exact hs2 | exact hcs2)) (by decide)).mono ?_; rintro e w' ⟨rfl, rfl⟩))
            all_goals (try (exfalso; omega))
            all_goals
              go_ret
              refine ⟨ret_str ?_, by (repeat (first | exact Below.refl _ _ | assumption | refine balloc ?_ _ | refine bdrew ?_ | refine bdrewN ?_ _ | refine bchain ?_ (by assumption)))⟩
              rw [HA.out, HBB.out]
          · have hle := sfx_le hll
            have hle2 : 2 ≤ r.size := hle
            by_cases hm2 : 1 < meas r
            · have HBB := Lib.hid (s5b_yes hll hm2)
              have hm2i : (1 : Int) < ((meas r : Nat) : Int) := by omega
              clear hm2
              go_enter Tryd.func88, Tryd.ntmps88
              go_wp2_with (first
                | (go_at_call_of 100 (Value.string r); refine (measure_ref r _ hcs).mono ?_; rintro e wA ⟨rfl, hA⟩)
                | (go_at_call_of 100 (Value.string s); refine (measure_ref s _ hs).mono ?_; rintro e wB ⟨rfl, hB⟩)
                | (go_at_call 104; refine (short_any r _ hcs).mono ?_; rintro e wC ⟨rfl, hC⟩)
                | (go_at_call 85; refine (ends_any _ _ _ (by (first | exact hs2 | exact hcs2)) (by decide)).mono ?_; rintro e w' ⟨rfl, rfl⟩))
              all_goals (try (exfalso; omega))
              all_goals
                go_ret
                refine ⟨ret_str ?_, by (repeat (first | exact Below.refl _ _ | assumption | refine balloc ?_ _ | refine bdrew ?_ | refine bdrewN ?_ _ | refine bchain ?_ (by assumption)))⟩
                rw [HA.out, HBB.out]
                first | rfl | exact HRE.out.symm
            · have HBB := Lib.hid (s5b_low hm2)
              have hm2i : ¬ (1 : Int) < ((meas r : Nat) : Int) := by omega
              clear hm2
              go_enter Tryd.func88, Tryd.ntmps88
              go_wp2_with (first
                | (go_at_call_of 100 (Value.string r); refine (measure_ref r _ hcs).mono ?_; rintro e wA ⟨rfl, hA⟩)
                | (go_at_call_of 100 (Value.string s); refine (measure_ref s _ hs).mono ?_; rintro e wB ⟨rfl, hB⟩)
                | (go_at_call 104; refine (short_any r _ hcs).mono ?_; rintro e wC ⟨rfl, hC⟩)
                | (go_at_call 85; refine (ends_any _ _ _ (by (first | exact hs2 | exact hcs2)) (by decide)).mono ?_; rintro e w' ⟨rfl, rfl⟩))
              all_goals (try (exfalso; omega))
              all_goals
                go_ret
                refine ⟨ret_str ?_, by (repeat (first | exact Below.refl _ _ | assumption | refine balloc ?_ _ | refine bdrew ?_ | refine bdrewN ?_ _ | refine bchain ?_ (by assumption)))⟩
                rw [HA.out, HBB.out]
        · have HA := Lib.hid (s5a_short (s := s) (by rw [← hr]; exact hm1) (by rw [← hr]; exact hsh))
          clear hr hm hm1
          rcases hll : sfx s ⟨#[108, 108]⟩ with _ | _
          · have HBB := Lib.hid (s5b_no hll)
            go_enter Tryd.func88, Tryd.ntmps88
            go_wp2_with (first
              | (go_at_call_of 100 (Value.string r); refine (measure_ref r _ hcs).mono ?_; rintro e wA ⟨rfl, hA⟩)
              | (go_at_call_of 100 (Value.string s); refine (measure_ref s _ hs).mono ?_; rintro e wB ⟨rfl, hB⟩)
              | (go_at_call 104; refine (short_any r _ hcs).mono ?_; rintro e wC ⟨rfl, hC⟩)
              | (go_at_call 85; refine (ends_any _ _ _ (by (first | exact hs2 | exact hcs2)) (by decide)).mono ?_; rintro e w' ⟨rfl, rfl⟩))
            all_goals (try (exfalso; omega))
            all_goals
              go_ret
              refine ⟨ret_str ?_, by (repeat (first | exact Below.refl _ _ | assumption | refine balloc ?_ _ | refine bdrew ?_ | refine bdrewN ?_ _ | refine bchain ?_ (by assumption)))⟩
              rw [HA.out, HBB.out]
          · have hle := sfx_le hll
            have hle2 : 2 ≤ s.size := hle
            by_cases hm2 : 1 < meas s
            · have HBB := Lib.hid (s5b_yes hll hm2)
              have hm2i : (1 : Int) < ((meas s : Nat) : Int) := by omega
              clear hm2
              go_enter Tryd.func88, Tryd.ntmps88
              go_wp2_with (first
                | (go_at_call_of 100 (Value.string r); refine (measure_ref r _ hcs).mono ?_; rintro e wA ⟨rfl, hA⟩)
                | (go_at_call_of 100 (Value.string s); refine (measure_ref s _ hs).mono ?_; rintro e wB ⟨rfl, hB⟩)
                | (go_at_call 104; refine (short_any r _ hcs).mono ?_; rintro e wC ⟨rfl, hC⟩)
                | (go_at_call 85; refine (ends_any _ _ _ (by (first | exact hs2 | exact hcs2)) (by decide)).mono ?_; rintro e w' ⟨rfl, rfl⟩))
              all_goals (try (exfalso; omega))
              all_goals
                go_ret
                refine ⟨ret_str ?_, by (repeat (first | exact Below.refl _ _ | assumption | refine balloc ?_ _ | refine bdrew ?_ | refine bdrewN ?_ _ | refine bchain ?_ (by assumption)))⟩
                rw [HA.out, HBB.out]
                first | rfl | exact HRE.out.symm
            · have HBB := Lib.hid (s5b_low hm2)
              have hm2i : ¬ (1 : Int) < ((meas s : Nat) : Int) := by omega
              clear hm2
              go_enter Tryd.func88, Tryd.ntmps88
              go_wp2_with (first
                | (go_at_call_of 100 (Value.string r); refine (measure_ref r _ hcs).mono ?_; rintro e wA ⟨rfl, hA⟩)
                | (go_at_call_of 100 (Value.string s); refine (measure_ref s _ hs).mono ?_; rintro e wB ⟨rfl, hB⟩)
                | (go_at_call 104; refine (short_any r _ hcs).mono ?_; rintro e wC ⟨rfl, hC⟩)
                | (go_at_call 85; refine (ends_any _ _ _ (by (first | exact hs2 | exact hcs2)) (by decide)).mono ?_; rintro e w' ⟨rfl, rfl⟩))
              all_goals (try (exfalso; omega))
              all_goals
                go_ret
                refine ⟨ret_str ?_, by (repeat (first | exact Below.refl _ _ | assumption | refine balloc ?_ _ | refine bdrew ?_ | refine bdrewN ?_ _ | refine bchain ?_ (by assumption)))⟩
                rw [HA.out, HBB.out]
      · have HA := Lib.hid (s5a_zero (s := s) (by rw [← hr]; omega))
        have hmi : ¬ (1 : Int) < ((meas r : Nat) : Int) := by omega
        have hmj : (((meas r : Nat) : Int) == 1) = false := by simp; omega
        clear hr hm hm1
        rcases hll : sfx s ⟨#[108, 108]⟩ with _ | _
        · have HBB := Lib.hid (s5b_no hll)
          go_enter Tryd.func88, Tryd.ntmps88
          go_wp2_with (first
            | (go_at_call_of 100 (Value.string r); refine (measure_ref r _ hcs).mono ?_; rintro e wA ⟨rfl, hA⟩)
            | (go_at_call_of 100 (Value.string s); refine (measure_ref s _ hs).mono ?_; rintro e wB ⟨rfl, hB⟩)
            | (go_at_call 104; refine (short_any r _ hcs).mono ?_; rintro e wC ⟨rfl, hC⟩)
            | (go_at_call 85; refine (ends_any _ _ _ (by (first | exact hs2 | exact hcs2)) (by decide)).mono ?_; rintro e w' ⟨rfl, rfl⟩))
          all_goals (try (exfalso; omega))
          all_goals
            go_ret
            refine ⟨ret_str ?_, by (repeat (first | exact Below.refl _ _ | assumption | refine balloc ?_ _ | refine bdrew ?_ | refine bdrewN ?_ _ | refine bchain ?_ (by assumption)))⟩
            rw [HA.out, HBB.out]
        · have hle := sfx_le hll
          have hle2 : 2 ≤ s.size := hle
          by_cases hm2 : 1 < meas s
          · have HBB := Lib.hid (s5b_yes hll hm2)
            have hm2i : (1 : Int) < ((meas s : Nat) : Int) := by omega
            clear hm2
            go_enter Tryd.func88, Tryd.ntmps88
            go_wp2_with (first
              | (go_at_call_of 100 (Value.string r); refine (measure_ref r _ hcs).mono ?_; rintro e wA ⟨rfl, hA⟩)
              | (go_at_call_of 100 (Value.string s); refine (measure_ref s _ hs).mono ?_; rintro e wB ⟨rfl, hB⟩)
              | (go_at_call 104; refine (short_any r _ hcs).mono ?_; rintro e wC ⟨rfl, hC⟩)
              | (go_at_call 85; refine (ends_any _ _ _ (by (first | exact hs2 | exact hcs2)) (by decide)).mono ?_; rintro e w' ⟨rfl, rfl⟩))
            all_goals (try (exfalso; omega))
            all_goals
              go_ret
              refine ⟨ret_str ?_, by (repeat (first | exact Below.refl _ _ | assumption | refine balloc ?_ _ | refine bdrew ?_ | refine bdrewN ?_ _ | refine bchain ?_ (by assumption)))⟩
              rw [HA.out, HBB.out]
              first | rfl | exact HRE.out.symm
          · have HBB := Lib.hid (s5b_low hm2)
            have hm2i : ¬ (1 : Int) < ((meas s : Nat) : Int) := by omega
            clear hm2
            go_enter Tryd.func88, Tryd.ntmps88
            go_wp2_with (first
              | (go_at_call_of 100 (Value.string r); refine (measure_ref r _ hcs).mono ?_; rintro e wA ⟨rfl, hA⟩)
              | (go_at_call_of 100 (Value.string s); refine (measure_ref s _ hs).mono ?_; rintro e wB ⟨rfl, hB⟩)
              | (go_at_call 104; refine (short_any r _ hcs).mono ?_; rintro e wC ⟨rfl, hC⟩)
              | (go_at_call 85; refine (ends_any _ _ _ (by (first | exact hs2 | exact hcs2)) (by decide)).mono ?_; rintro e w' ⟨rfl, rfl⟩))
            all_goals (try (exfalso; omega))
            all_goals
              go_ret
              refine ⟨ret_str ?_, by (repeat (first | exact Below.refl _ _ | assumption | refine balloc ?_ _ | refine bdrew ?_ | refine bdrewN ?_ _ | refine bchain ?_ (by assumption)))⟩
              rw [HA.out, HBB.out]

end Go.Proofs.YtmoahflgcojfcaaDoor.RefLast
