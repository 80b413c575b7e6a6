/-
  The walk of TokensPlurals.
-/
import Derived.Test.YtmoahflgcojfcaaLives
import Derived.Test.YtmoahflgcojfcaaPluralPlain2
namespace Go.Proofs.Ytmoahflgcojfcaa.TokensPluralsWalk
open Go.RowKit Go.PlainAid StemPlain StemSize Base StemWalk StemWalk8 Lives PluralPlain PluralPlain2

set_option maxHeartbeats 1000000 in
theorem ends_law (s e : ByteArray) (w : World) (hs : s.size ≤ 281474976710656) (he : e.size ≤ 281474976710656) :
    Calls Try.prog 18 #[.string s, .string e] w fun r w' => r = .returned (.bool (sfx s e)) ∧ w' = w := by
  by_cases h : e.size ≤ s.size
  · have HL := Lib.hid (sfx_long h)
    go_enter Try.func18, Try.ntmps18
    go_wp2
    go_ret
    exact ⟨ret_bool HL.out, rfl⟩
  · have hs := Lib.hid (sfx_short h)
    go_enter Try.func18, Try.ntmps18
    go_wp2
    go_ret
    exact ⟨ret_bool hs.out.symm, rfl⟩

theorem stem_nil : stem ⟨#[]⟩ = ⟨#[]⟩ := by kernel_rfl
theorem pos_list {s : ByteArray} (h : 0 < s.size) : s.toList ≠ [] := by
  rw [ByteArray.toList_eq]
  intro e
  have h2 : s.data.toList.length = 0 := by rw [e]; rfl
  rw [Array.length_toList] at h2
  change s.size = 0 at h2
  omega
theorem nil_of {s : ByteArray} (h : s.size = 0) : s = ⟨#[]⟩ := by
  apply ByteArray.ext
  exact Array.eq_empty_of_size_eq_zero h

theorem walk_nil (w : World) :
    Calls Try.prog 8 #[.string ⟨#[]⟩] w fun e w' => e = .returned (.bool true) ∧ Below w.heap.size w w' := by
  have HN := Lib.hid stem_nil
  go_enter Try.func8, Try.ntmps8
  go_wp2_with (first
    | (go_at_call 11; refine (lives_any _).mono ?_; rintro e w1 ⟨rfl, hb1⟩)
    | (go_at_call 16; refine (stem_any _ _ (by decide)).mono ?_; rw [HN.out]; rintro e w2 ⟨rfl, hb2⟩))
  go_loop [4] (fun i => i = .int .i64 0) (fun _ => 0)
  case atStart => exact rfl
  case round =>
    subst hrel
    go_wp2
    go_ret
    exact ⟨rfl, bchain hb1 hb2⟩

set_option maxHeartbeats 4000000 in
theorem walk (a0 : ByteArray) (z0 : a0.size ≤ 140737488351232) (w : World) :
    Calls Try.prog 8 #[.string a0] w fun e w' => e = .returned (.bool true) ∧ Below w.heap.size w w' := by
  rcases Nat.eq_zero_or_pos a0.size with h0 | h0
  · obtain rfl := nil_of h0
    exact walk_nil w
  · have hb := get_bt a0
    have HZ : Hid ((a0 ++ ⟨#[39, 115]⟩).size ≤ 140737488355327 ∧ (a0 ++ ⟨#[115]⟩).size ≤ 140737488355327) := Lib.hid (by rw [ByteArray.size_append, ByteArray.size_append]; exact ⟨by show _ + 2 ≤ _; omega, by show _ + 1 ≤ _; omega⟩)
    have t0 := stem_le a0
    have t1 := stem_pos h0
    obtain ⟨t, ht⟩ : ∃ t, t = stem a0 := ⟨_, rfl⟩
    have HT := Lib.hid ht
    rw [← ht] at t0 t1
    clear ht
    have l1 := pos_list h0
    have l2 := pos_list t1
    have l3 : a0.toList.isEmpty = false := by simpa using l1
    have l4 : t.toList.isEmpty = false := by simpa using l2
    go_enter Try.func8, Try.ntmps8
    go_wp2_with (first
      | (go_at_call 11; refine (lives_any _).mono ?_; rintro e w1 ⟨rfl, hb1⟩)
      | (go_at_call 16; refine (stem_any _ _ (by omega)).mono ?_; rw [← HT.out]; rintro e w2 ⟨rfl, hb2⟩))
    have hbel := bchain hb1 hb2
    clear hb1 hb2
    go_loop [4] (fun i => ∃ k : Nat, k ≤ a0.size ∧ i = .int .i64 k ∧ allSmall a0 k = true) (fun i => a0.size - (intOf i).toNat)
    case atStart => exact ⟨0, Nat.zero_le _, rfl, rfl⟩
    case round =>
      obtain ⟨k, hk, rfl, hall⟩ := hrel
      have HALL := Lib.hid hall
      clear hall
      by_cases hlt : k < a0.size
      · by_cases hin : 97 ≤ bt a0 k ∧ bt a0 k ≤ 122
        · have HS : Hid (allSmall a0 (k + 1) = true) := Lib.hid (by unfold allSmall; rw [HALL.out, decide_eq_true hin]; rfl)
          obtain ⟨i1, i2⟩ := hin
          go_wp2
          go_round
          case rel => exact ⟨k + 1, by omega, by go_num, HS.out⟩
          case measure => simp [intOf]; omega
        · by_cases i1 : bt a0 k < 97
          · go_wp2
            go_ret
            exact ⟨rfl, hbel⟩
          · have i2 : 122 < bt a0 k := by omega
            go_wp2
            go_ret
            exact ⟨rfl, hbel⟩
      · obtain rfl : k = a0.size := by omega
        have hsm := allSmall_all.1 HALL.out
        have HSM := Lib.hid hsm
        clear hsm HALL
        by_cases h3 : a0.size < 3
        · have HE : Hid (t = a0) := Lib.hid (HT.out.trans (stem_short h3 HSM.out))
          go_wp2
          go_ret
          exact ⟨ret_bool (by rw [HE.out]; simp), hbel⟩
        · have HP : Hid (stem (a0 ++ ⟨#[39, 115]⟩) = t) := Lib.hid ((stem_possessive (by omega) HSM.out).trans HT.out.symm)
          cases x1 : sfx a0 ⟨#[115]⟩
          · cases x2 : sfx a0 ⟨#[105, 101]⟩
            · cases x3 : sfx a0 ⟨#[115, 115, 101]⟩
              · have HQ : Hid (stem (a0 ++ ⟨#[115]⟩) = t) := Lib.hid ((stem_plural (by omega) HSM.out x1 x2 x3).trans HT.out.symm)
                go_wp2_with (first
                  | (go_at_call 16; refine (stem_any _ _ (by first | exact HZ.out.1 | exact HZ.out.2)).mono ?_; first | (rw [HP.out]; rintro e w3 ⟨rfl, hb3⟩) | (rw [HQ.out]; rintro e w4 ⟨rfl, hb4⟩))
                  | (go_at_call 18; refine (ends_law _ _ _ (by omega) (by decide)).mono ?_; rintro e w' ⟨rfl, rfl⟩))
                go_ret
                exact ⟨ret_bool (by simp), bchain (bchain hbel hb3) hb4⟩
              · go_wp2_with (first
                  | (go_at_call 16; refine (stem_any _ _ HZ.out.1).mono ?_; rw [HP.out]; rintro e w3 ⟨rfl, hb3⟩)
                  | (go_at_call 18; refine (ends_law _ _ _ (by omega) (by decide)).mono ?_; rintro e w' ⟨rfl, rfl⟩))
                go_ret
                exact ⟨rfl, bchain hbel hb3⟩
            · go_wp2_with (first
                | (go_at_call 16; refine (stem_any _ _ HZ.out.1).mono ?_; rw [HP.out]; rintro e w3 ⟨rfl, hb3⟩)
                | (go_at_call 18; refine (ends_law _ _ _ (by omega) (by decide)).mono ?_; rintro e w' ⟨rfl, rfl⟩))
              go_ret
              exact ⟨rfl, bchain hbel hb3⟩
          · go_wp2_with (first
              | (go_at_call 16; refine (stem_any _ _ HZ.out.1).mono ?_; rw [HP.out]; rintro e w3 ⟨rfl, hb3⟩)
              | (go_at_call 18; refine (ends_law _ _ _ (by omega) (by decide)).mono ?_; rintro e w' ⟨rfl, rfl⟩))
            go_ret
            exact ⟨rfl, bchain hbel hb3⟩
end Go.Proofs.Ytmoahflgcojfcaa.TokensPluralsWalk
