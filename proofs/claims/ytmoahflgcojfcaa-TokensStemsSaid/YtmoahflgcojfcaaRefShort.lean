/-
  The walks of the reference's double and short.
-/
import Derived.Test.YtmoahflgcojfcaaRefForm
namespace Go.Proofs.Ytmoahflgcojfcaa.RefShort
open Go.RowKit Go.PlainAid StemPlain Base Vowels StemWalk StemWalk2 RefForm

set_option maxHeartbeats 1000000 in
theorem double_any (s : ByteArray) (w : World) (hs : s.size ≤ 140737488355327) :
    Calls Try.prog 56 #[.string s] w fun r w' => r = .returned (.bool (dbl s)) ∧ Below w.heap.size w w' := by
  have hb := get_bt s
  by_cases h2 : 2 ≤ s.size
  · have d2 : decide ((1 : Int) < (s.size : Int)) = true := by simp; omega
    have x1 : IntKind.i64.wrap ((s.size : Int) - 1) = (s.size : Int) - 1 := IntWalk.i64_in _ (by omega)
    have x2 : IntKind.i64.wrap ((s.size : Int) - 2) = (s.size : Int) - 2 := IntWalk.i64_in _ (by omega)
    have j1 : (1 : Int) ≤ (s.size : Int) := by omega
    have j2 : (2 : Int) ≤ (s.size : Int) := by omega
    have y1 : ((s.size : Int) - 1).toNat = s.size - 1 := by omega
    have y2 : ((s.size : Int) - 2).toNat = s.size - 2 := by omega
    by_cases he : bt s (s.size - 1) = bt s (s.size - 2)
    · have hd : dbl s = !vow s (s.size - 1) := by unfold dbl; simp [h2, he]
      have HD := Lib.hid hd
      have he' : (bt s (s.size - 1) == bt s (s.size - 2)) = true := by simpa using he
      have hfs := formS_size s
      have hfb := bt_formS s (s.size - 1) (by omega)
      have hgf := get_bt (formS s)
      clear hd he
      rcases v : vow s (s.size - 1) with _ | _ <;> rw [v] at hfb <;> simp only [Bool.false_eq_true, if_true, if_false] at hfb <;> have HV := Lib.hid v <;> clear v
      all_goals
        go_enter Try.func56, Try.ntmps56
        go_wp2_with fail
        refine wp_region_bw w.heap.size (by kernel_rfl) (by kernel_rfl) ?_
        repeat (go_big_quiet_step ((go_at_call 55; exact calls_bw (Nat.le_refl _) (form_any _ _ hs))))
        refine wpQuiet_nil ?_
        intro _ hw'
        obtain ⟨⟨wq, hbq⟩, hw''⟩ := hw'
        subst hw''
        go_wp2
        go_ret
        exact ⟨ret_bool (by rw [HD.out, HV.out]; rfl), hbq⟩
    · have HD := Lib.hid (show dbl s = false by unfold dbl; simp [he])
      have he' : (bt s (s.size - 1) == bt s (s.size - 2)) = false := by simpa using he
      clear he
      go_enter Try.func56, Try.ntmps56
      go_wp2_with fail
      go_big_quiet (fail)
      go_wp2
      go_ret
      exact ⟨ret_bool HD.out.symm, ⟨rfl, rfl, rfl, Nat.le_refl _, fun _ _ => rfl⟩⟩
  · have HD := Lib.hid (show dbl s = false by unfold dbl; simp [h2])
    have d2 : decide ((1 : Int) < (s.size : Int)) = false := by simp; omega
    go_enter Try.func56, Try.ntmps56
    go_wp2_with fail
    go_big_quiet (fail)
    go_wp2
    go_ret
    exact ⟨ret_bool HD.out.symm, ⟨rfl, rfl, rfl, Nat.le_refl _, fun _ _ => rfl⟩⟩

theorem tail3 (s : ByteArray) (h : 3 ≤ s.size) : ((formS s).extract (s.size - 3) s.size).toList = [fbyte s (s.size - 3), fbyte s (s.size - 2), fbyte s (s.size - 1)] := by
  rw [ByteArray.toList_eq, ByteArray.data_extract]
  show ((flist s s.size).toArray.extract (s.size - 3) s.size).toList = _
  obtain ⟨n, hn⟩ : ∃ n, s.size = n + 3 := ⟨s.size - 3, by omega⟩
  rw [hn]
  unfold flist
  apply List.ext_getElem?
  intro j
  simp only [List.extract_toArray, List.extract_eq_take_drop, List.getElem?_take, List.getElem?_drop, List.getElem?_map]
  rcases j with _ | _ | _ | j
  · simp
  · simp
  · simp
  · simp
theorem cvc (s : ByteArray) (h : 3 ≤ s.size) : (((formS s).extract (s.size - 3) s.size).toList == [99, 118, 99]) = (!vow s (s.size - 3) && vow s (s.size - 2) && !vow s (s.size - 1)) := by
  rw [tail3 s h]
  unfold fbyte
  cases vow s (s.size - 3) <;> cases vow s (s.size - 2) <;> cases vow s (s.size - 1) <;> rfl

set_option maxHeartbeats 1000000 in
theorem short_any (s : ByteArray) (w : World) (hs : s.size ≤ 140737488355327) :
    Calls Try.prog 51 #[.string s] w fun r w' => r = .returned (.bool (shrt s)) ∧ Below w.heap.size w w' := by
  have hb := get_bt s
  by_cases h3 : 3 ≤ s.size
  · have d3 : decide ((s.size : Int) < 3) = false := by simp; omega
    rcases hx : wxy (bt s (s.size - 1)) with _ | _
    · have HS := Lib.hid (shrt_else h3 hx)
      have hn : bt s (s.size - 1) ≠ 119 ∧ bt s (s.size - 1) ≠ 120 ∧ bt s (s.size - 1) ≠ 121 := by unfold wxy at hx; simpa [and_assoc] using hx
      obtain ⟨n1, n2, n3⟩ := hn
      have m1 : (bt s (s.size - 1) == 119) = false := by simpa using n1
      have m2 : (bt s (s.size - 1) == 120) = false := by simpa using n2
      have m3 : (bt s (s.size - 1) == 121) = false := by simpa using n3
      have hfs := formS_size s
      have hcv := cvc s h3
      clear hx n1 n2 n3
      go_enter Try.func51, Try.ntmps51
      go_wp2_with (go_at_call 55; refine (form_any _ _ hs).mono ?_; rintro e w1 ⟨rfl, hb1⟩)
      go_ret
      exact ⟨ret_bool HS.out.symm, hb1⟩
    · have HS := Lib.hid (shrt_wxy hx)
      have hn : bt s (s.size - 1) = 119 ∨ bt s (s.size - 1) = 120 ∨ bt s (s.size - 1) = 121 := by unfold wxy at hx; simpa [or_assoc] using hx
      clear hx
      go_enter Try.func51, Try.ntmps51
      go_wp2_with fail
      all_goals (try (exfalso; omega))
      all_goals
        go_ret
        exact ⟨ret_bool HS.out.symm, Below.refl _ _⟩
  · have d3 : decide ((s.size : Int) < 3) = true := by simp; omega
    have HS := Lib.hid (shrt_small h3)
    go_enter Try.func51, Try.ntmps51
    go_wp2
    go_ret
    exact ⟨ret_bool HS.out.symm, Below.refl _ _⟩
end Go.Proofs.Ytmoahflgcojfcaa.RefShort
