/-
  The walk of the reference's Stem.
-/
import Derived.Test.YtmoahflgcojfcaaDoorDStems
import Derived.Test.YtmoahflgcojfcaaDoorDRefStems
namespace Go.Proofs.YtmoahflgcojfcaaDoor.RefStem
set_option maxRecDepth 100000
open Go.RowKit Go.PlainAid StemPlain StemSize Base Vowels StemWalk StemWalk2 StemWalk8 RefForm RefFirst RefMiddle RefLast

set_option maxHeartbeats 4000000 in
theorem stem_ref (s : ByteArray) (w : World) (hs : s.size ≤ 140737488351250) :
    Calls Tryd.prog 66 #[.string s] w fun r w' => r = .returned (.string (stem s)) ∧ Below w.heap.size w w' := by
  have hs2 : s.size ≤ 281474976710656 := by omega
  have e0 := poss_size s
  have e1 := s1a_size (poss s)
  have e2 := s1b_size (s1a (poss s))
  have e3 := s1c_size (s1b (s1a (poss s)))
  have e4 : (rep (s1c (s1b (s1a (poss s)))) L2 0).size ≤ _ := rep_size (by decide)
  have e5 : (rep (rep (s1c (s1b (s1a (poss s)))) L2 0) L3 0).size ≤ _ := rep_size (by decide)
  have e6 := s4_size (rep (rep (s1c (s1b (s1a (poss s)))) L2 0) L3 0)
  have ways : (2 < s.size ∧ sfx s ⟨#[39, 115]⟩ = true) ∨ (2 < s.size ∧ sfx s ⟨#[39, 115]⟩ = false) ∨ ¬ 2 < s.size := by
    by_cases h : 2 < s.size
    · cases hx : sfx s ⟨#[39, 115]⟩
      · exact .inr (.inl ⟨h, rfl⟩)
      · exact .inl ⟨h, rfl⟩
    · exact .inr (.inr h)
  obtain ⟨u, hu⟩ : ∃ u, u = poss s := ⟨_, rfl⟩
  have HST : Hid ((u.size < 3 → stem s = u) ∧ (¬ u.size < 3 → allSmall u u.size = false → stem s = u) ∧ (¬ u.size < 3 → allSmall u u.size = true → stem s = s5b (s5a (s4 (rep (rep (s1c (s1b (s1a u))) L2 0) L3 0))))) :=
    Lib.hid (by rw [hu]; exact ⟨stem_small, stem_else, stem_all⟩)
  rw [← hu] at e0 e1 e2 e3 e4 e5 e6
  have hgb := get_bt u
  have huS : Hid (2 < s.size → sfx s ⟨#[39, 115]⟩ = true → u = cut s ⟨#[39, 115]⟩) := Lib.hid (fun h h' => hu.trans (poss_yes h h'))
  have huN : Hid ((2 < s.size → sfx s ⟨#[39, 115]⟩ = false) → u = s) := Lib.hid (fun h => hu.trans (poss_no h))
  clear hu
  have hub : u.size ≤ 140737488351250 := by omega
  have hu2 : u.size ≤ 281474976710656 := by omega
  have f1 : (s1a u).size ≤ 281474976710656 := by omega
  have f2 : (s1b (s1a u)).size ≤ 281474976710656 := by omega
  have f3 : (s1c (s1b (s1a u))).size ≤ 281474976710656 := by omega
  have f4 : (rep (s1c (s1b (s1a u))) L2 0).size ≤ 281474976710656 := by omega
  have f5 : (rep (rep (s1c (s1b (s1a u))) L2 0) L3 0).size ≤ 281474976710656 := by omega
  have f6 : (s4 (rep (rep (s1c (s1b (s1a u))) L2 0) L3 0)).size ≤ 281474976710656 := by omega
  have HG := Lib.hid (And.intro (show u.size ≤ 140737488351300 by omega) (And.intro (show (s1c (s1b (s1a u))).size ≤ 140737488355300 by omega) (show (s4 (rep (rep (s1c (s1b (s1a u))) L2 0) L3 0)).size ≤ 140737488355327 by omega)))
  have HF := Lib.hid (And.intro f1 (And.intro f2 (And.intro f3 (And.intro f4 (And.intro f5 f6)))))
  clear e1 e2 e3 e4 e5 e6 f1 f2 f3 f4 f5 f6
  rcases ways with ⟨h2, hx⟩ | ⟨h2, hx⟩ | h2
  · have hle := sfx_le hx
    have hex : s.extract 0 (s.size - 2) = u := (huS.out h2 hx).symm
    have hle2 : 2 ≤ s.size := by omega
    clear huS huN
    by_cases h3 : u.size < 3
    · go_enter Tryd.func66, Tryd.ntmps66
      go_wp2_with (go_at_call 85; refine (ends_any _ _ _ hs2 (by decide)).mono ?_; rintro e w' ⟨rfl, rfl⟩)
      go_ret
      first
        | exact ⟨ret_str (HST.out.1 h3).symm, Below.refl _ _⟩
        | exact ⟨ret_str (hex.trans (HST.out.1 h3).symm), Below.refl _ _⟩
    · go_enter Tryd.func66, Tryd.ntmps66
      go_wp2_with (go_at_call 85; refine (ends_any _ _ _ hs2 (by decide)).mono ?_; rintro e w' ⟨rfl, rfl⟩)
      go_loop [3] (fun i => ∃ k : Nat, k ≤ u.size ∧ i = .int .i64 k ∧ allSmall u k = true) (fun i => u.size - (intOf i).toNat)
      case atStart => exact ⟨0, Nat.zero_le _, rfl, rfl⟩
      case round =>
        obtain ⟨k, hk, rfl, hall⟩ := hrel
        have HALL := Lib.hid hall
        clear hall
        by_cases hlt : k < u.size
        · by_cases hin : 97 ≤ bt u k ∧ bt u k ≤ 122
          · have HS : Hid (allSmall u (k + 1) = true) := Lib.hid (by unfold allSmall; rw [HALL.out, decide_eq_true hin]; rfl)
            obtain ⟨i1, i2⟩ := hin
            go_wp2
            go_round
            case rel => exact ⟨k + 1, by omega, by go_num, HS.out⟩
            case measure => simp [intOf]; omega
          · have HS : Hid (allSmall u u.size = false) := Lib.hid (by
              cases hc : allSmall u u.size
              · rfl
              · exact absurd (allSmall_all.1 hc k hlt) hin)
            by_cases i1 : bt u k < 97
            · go_wp2
              go_ret
              exact ⟨ret_str (HST.out.2.1 h3 HS.out).symm, Below.refl _ _⟩
            · have i2 : 122 < bt u k := by omega
              go_wp2
              go_ret
              exact ⟨ret_str (HST.out.2.1 h3 HS.out).symm, Below.refl _ _⟩
        · obtain rfl : k = u.size := by omega
          have HS := Lib.hid (HST.out.2.2 h3 HALL.out)
          go_wp2_with (first
            | (go_at_call 86; refine (first_any _ _ HG.out.1).mono ?_; rintro e w1 ⟨rfl, hb1⟩)
            | (go_at_call 87; refine (middle_any _ _ HG.out.2.1).mono ?_; rintro e w2 ⟨rfl, hb2⟩)
            | (go_at_call 88; refine (last_any _ _ HG.out.2.2).mono ?_; rintro e w3 ⟨rfl, hb3⟩))
          go_ret
          exact ⟨ret_str HS.out.symm, bchain (bchain hb1 hb2) hb3⟩
  · have hus : s = u := (huN.out (fun _ => hx)).symm
    subst hus
    clear huS huN
    have h3 : ¬ s.size < 3 := by omega
    · go_enter Tryd.func66, Tryd.ntmps66
      go_wp2_with (go_at_call 85; refine (ends_any _ _ _ hs2 (by decide)).mono ?_; rintro e w' ⟨rfl, rfl⟩)
      go_loop [3] (fun i => ∃ k : Nat, k ≤ s.size ∧ i = .int .i64 k ∧ allSmall s k = true) (fun i => s.size - (intOf i).toNat)
      case atStart => exact ⟨0, Nat.zero_le _, rfl, rfl⟩
      case round =>
        obtain ⟨k, hk, rfl, hall⟩ := hrel
        have HALL := Lib.hid hall
        clear hall
        by_cases hlt : k < s.size
        · by_cases hin : 97 ≤ bt s k ∧ bt s k ≤ 122
          · have HS : Hid (allSmall s (k + 1) = true) := Lib.hid (by unfold allSmall; rw [HALL.out, decide_eq_true hin]; rfl)
            obtain ⟨i1, i2⟩ := hin
            go_wp2
            go_round
            case rel => exact ⟨k + 1, by omega, by go_num, HS.out⟩
            case measure => simp [intOf]; omega
          · have HS : Hid (allSmall s s.size = false) := Lib.hid (by
              cases hc : allSmall s s.size
              · rfl
              · exact absurd (allSmall_all.1 hc k hlt) hin)
            by_cases i1 : bt s k < 97
            · go_wp2
              go_ret
              exact ⟨ret_str (HST.out.2.1 h3 HS.out).symm, Below.refl _ _⟩
            · have i2 : 122 < bt s k := by omega
              go_wp2
              go_ret
              exact ⟨ret_str (HST.out.2.1 h3 HS.out).symm, Below.refl _ _⟩
        · obtain rfl : k = s.size := by omega
          have HS := Lib.hid (HST.out.2.2 h3 HALL.out)
          go_wp2_with (first
            | (go_at_call 86; refine (first_any _ _ HG.out.1).mono ?_; rintro e w1 ⟨rfl, hb1⟩)
            | (go_at_call 87; refine (middle_any _ _ HG.out.2.1).mono ?_; rintro e w2 ⟨rfl, hb2⟩)
            | (go_at_call 88; refine (last_any _ _ HG.out.2.2).mono ?_; rintro e w3 ⟨rfl, hb3⟩))
          go_ret
          exact ⟨ret_str HS.out.symm, bchain (bchain hb1 hb2) hb3⟩
  · have hus : s = u := (huN.out (fun h => absurd h h2)).symm
    subst hus
    clear huS huN
    have h3 : s.size < 3 := by omega
    · go_enter Tryd.func66, Tryd.ntmps66
      go_wp2_with (go_at_call 85; refine (ends_any _ _ _ hs2 (by decide)).mono ?_; rintro e w' ⟨rfl, rfl⟩)
      go_ret
      first
        | exact ⟨ret_str (HST.out.1 h3).symm, Below.refl _ _⟩
        | exact ⟨ret_str (hex.trans (HST.out.1 h3).symm), Below.refl _ _⟩
end Go.Proofs.YtmoahflgcojfcaaDoor.RefStem
