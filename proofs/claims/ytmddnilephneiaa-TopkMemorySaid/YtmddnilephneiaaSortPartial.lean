/-
  The walk of sort.partialInsertionSort_func where 'less' may make memory.
-/
import Derived.Test.YtmddnilephneiaaSortBase
import Derived.Deep.CutBlock
namespace Go.Proofs.Ytmddnilephneiaa.SortPartial
open Go.Shelf Go.RowKit Go.Lib Go.Sort Go.PlainAid HitPlain Base HitBase SortBase

section
variable {w0 : World} {blk off n g sf : Nat} {lb sb : Array Value} {lt : Hit → Hit → Bool}

set_option maxRecDepth 100000 in
set_option maxHeartbeats 16000000 in
theorem partial_any (L : Ls w0 blk off n g lb sf sb lt) (W : World) (d : Array Hit) (hR : Rw w0 blk off n W d) (a b : Nat) (hab : a < b) (hb : b ≤ n) :
    Calls Try.prog 58 #[.agg #[.func (.func g) #[] lb, .func (.func sf) #[] sb], .int .i64 a, .int .i64 b] W fun e w' => e = .returned (.bool (partialInsertionSort lt d a b).2) ∧ SortLeaves w0 blk off n W (partialInsertionSort lt d a b).1 w' := by
  have hne : W.heap.size ≠ blk := by have := hR.ltW; omega
  have hbig := L.big
  have eg := L.enter
  go_enter Try.func58, Try.ntmps58
  go_wp2_with fail
  go_loopw [7, 8] (fun vi vs wr => ∃ (i s : Nat) (dk : Array Hit), vi = .int .i64 i ∧ vs = .int .i64 s ∧ s ≤ 5 ∧ a < i ∧ i ≤ b ∧ partialIns lt a b (5 - s) i dk = partialIns lt a b 5 (a + 1) d ∧ Rw w0 blk off n wr dk ∧ Bx wr W.heap.size g lb sf sb ∧ Foot W wr (fun g => g ≠ blk)) (fun _ vs _ => 5 - (intOf vs).toNat)
  case atStart => exact ⟨a + 1, 0, d, by go_num, rfl, by omega, by omega, by omega, rfl, hR.alloc _, Bx.new _ _ _ _ _, (Foot.refl _ _).alloc _⟩
  case round =>
    obtain ⟨i, s, dk, rfl, rfl, hs5, hai, hib, hO, hr, hx, hf⟩ := hrel
    have HO := Lib.hid hO
    clear hO hR
    by_cases hs : s < 5
    · have hsz : (s : Int) < 5 := by omega
      have hsd : decide ((s : Int) < 5) = true := by simp; omega
      go_upto_block 2 with fail
      go_cut [7] from 17 to 30 (fun vi wx => ∃ kx : Nat, vi = .int .i64 kx ∧ i ≤ kx ∧ kx ≤ b ∧ scanSorted lt dk b i = kx ∧ Rw w0 blk off n wx dk ∧ Bx wx W.heap.size g lb sf sb ∧ Foot W wx (fun g => g ≠ blk))
      case first =>
        go_wp2_with fail
        go_loopw [7] (fun vi wr2 => ∃ kx : Nat, vi = .int .i64 kx ∧ i ≤ kx ∧ kx ≤ b ∧ scanSorted lt dk b kx = scanSorted lt dk b i ∧ Rw w0 blk off n wr2 dk ∧ Bx wr2 W.heap.size g lb sf sb ∧ Foot W wr2 (fun g => g ≠ blk)) (fun vi _ => b - (intOf vi).toNat)
        case atStart => exact ⟨i, rfl, Nat.le_refl _, hib, rfl, hr, hx, hf⟩
        case round =>
          obtain ⟨kx, rfl, h1, h2, hE, hr2, hx2, hf2⟩ := hrel
          have HE := Lib.hid hE
          clear hE hr hx hf
          have c0 := hx2.c0
          by_cases hlt : kx < b
          · cases hlv : lt dk[kx]! dk[kx - 1]!
            all_goals
              have HLV := Lib.hid hlv
              clear hlv
              have hl := L.at_ hr2 (i := kx) (j := kx - 1) (x := (kx : Int)) (y := (kx : Int) - 1) (by omega) (by omega) rfl (by omega) HLV.out
              go_wp2_with (go_at_fn g; refine hl.mono ?_; rintro e w1 ⟨rfl, hb1⟩)
            · go_roundw
              case rel => exact ⟨kx + 1, by go_num, by omega, by omega, (scanSorted_go lt dk b kx hlt HLV.out).symm.trans HE.out, hr2.below hb1, hx2.below hb1, hf2.trans (Foot.ofBelow hb1 _)⟩
              case measure => simp [intOf]; omega
            · go_meet
              exact ⟨kx, rfl, h1, h2, HE.out.symm.trans (scanSorted_stop lt dk b kx (.inr HLV.out)), hr2.below hb1, hx2.below hb1, hf2.trans (Foot.ofBelow hb1 _)⟩
          · go_wp2_with fail
            go_meet
            exact ⟨kx, rfl, h1, h2, HE.out.symm.trans (scanSorted_stop lt dk b kx (.inl hlt)), hr2, hx2, hf2⟩
      case rest =>
        clear hr hx hf
        obtain ⟨kx, rfl, hik, hkb, hK, hr, hx, hf⟩ := hcut
        have HK := Lib.hid hK
        clear hK
        have c1 := hx.c1
        by_cases hkb' : kx < b
        · have hkne : ((kx : Int) == (b : Int)) = false := beq_eq_false_iff_ne.2 (by omega)
          by_cases h50 : b - a < 50
          · have h50z : (b : Int) - (a : Int) < 50 := by omega
            have HV : Hid (partialInsertionSort lt d a b = (dk, false)) := Lib.hid (by unfold partialInsertionSort; rw [← HO.out, pi_short lt a b s i dk hs (by rw [HK.out]; omega) h50])
            go_wp2_with fail
            go_ret
            rw [HV.out]
            exact ⟨rfl, hr, hf⟩
          · have h50z : ¬ ((b : Int) - (a : Int) < 50) := by omega
            have HGO := Lib.hid (pi_go lt a b s i kx dk hs HK.out (by omega) h50)
            have hsw := L.sw hr (i := kx) (j := kx - 1) (x := (kx : Int)) (y := (kx : Int) - 1) (by omega) (by omega) rfl (by omega)
            have hfs := foot_swapW (blk := blk) (off := off) wc dk kx (kx - 1)
            have hr3 := hr.swap kx (kx - 1) (by omega) (by omega)
            have hx3 := hx.foot hfs hne
            have hf3 := hf.trans hfs
            generalize swapW wc blk off dk kx (kx - 1) = W3 at hsw hr3 hx3 hf3
            obtain ⟨D, hD⟩ : ∃ D, D = swp dk kx (kx - 1) := ⟨_, rfl⟩
            rw [← hD] at hr3 HGO
            have HD := Lib.hid hD
            clear hfs hr hx hf hD
            go_upto_if 47 with fail
            clear hsw
            go_cut [9, 47] from 48 to 66 (fun _ _ wx => Rw w0 blk off n wx (fixDown lt a kx D) ∧ Bx wx W.heap.size g lb sf sb ∧ Foot W wx (fun g => g ≠ blk))
            case first =>
              by_cases hka : kx - a ≥ 2
              · have hkaz : (2 : Int) ≤ (kx : Int) - (a : Int) := by omega
                have HF : Hid (fixDown lt a kx D = shiftDown lt (kx - 1) D) := Lib.hid (by unfold fixDown; rw [if_pos hka])
                go_wp2_with fail
                go_loopw [9] (fun vj wr3 => ∃ (j : Nat) (dj : Array Hit), vj = .int .i64 j ∧ j ≤ kx - 1 ∧ shiftDown lt j dj = shiftDown lt (kx - 1) D ∧ Rw w0 blk off n wr3 dj ∧ Bx wr3 W.heap.size g lb sf sb ∧ Foot W wr3 (fun g => g ≠ blk)) (fun vj _ => (intOf vj).toNat)
                case atStart => exact ⟨kx - 1, D, by congr 1; omega, Nat.le_refl _, rfl, hr3, hx3, hf3⟩
                case round =>
                  obtain ⟨j, dj, rfl, hjk, hE, hr4, hx4, hf4⟩ := hrel
                  have HE := Lib.hid hE
                  clear hE hr3 hx3 hf3
                  have c0 := hx4.c0
                  by_cases hj1 : 1 ≤ j
                  · cases hlv : lt dj[j]! dj[j - 1]!
                    all_goals
                      have HLV := Lib.hid hlv
                      clear hlv
                      have hl := L.at_ hr4 (i := j) (j := j - 1) (x := (j : Int)) (y := (j : Int) - 1) (by omega) (by omega) rfl (by omega) HLV.out
                    · go_wp2_with (go_at_fn g; refine hl.mono ?_; rintro e w1 ⟨rfl, hb1⟩)
                      go_meet
                      exact ⟨by rw [HF.out, ← HE.out, shiftDown_stop lt j dj (.inr HLV.out)]; exact hr4.below hb1, hx4.below hb1, hf4.trans (Foot.ofBelow hb1 _)⟩
                    · go_wp2_with (go_at_fn g; refine hl.mono ?_; rintro e w1 ⟨rfl, hb1⟩; have c3 := (hx4.below hb1).c1)
                      have hr5 := hr4.below hb1
                      rw [L.sw hr5 (i := j) (j := j - 1) (x := (j : Int)) (y := (j : Int) - 1) (by omega) (by omega) rfl (by omega), Oper.upon_value]
                      have hfs := foot_swapW (blk := blk) (off := off) w1 dj j (j - 1)
                      go_wp2_with fail
                      go_roundw
                      case rel => exact ⟨j - 1, swp dj j (j - 1), by congr 1; omega, by omega, by rw [← HE.out, shiftDown_go lt j dj hj1 HLV.out], hr5.swap _ _ (by omega) (by omega), (hx4.below hb1).foot hfs hne, (hf4.trans (Foot.ofBelow hb1 _)).trans hfs⟩
                      case measure => simp [intOf]; omega
                  · go_wp2_with fail
                    go_meet
                    exact ⟨by rw [HF.out, ← HE.out, shiftDown_stop lt j dj (.inl (by omega))]; exact hr4, hx4, hf4⟩
              · have hkaz : ¬ (2 : Int) ≤ (kx : Int) - (a : Int) := by omega
                go_wp2_with fail
                go_meet
                exact ⟨by unfold fixDown; rw [if_neg hka]; exact hr3, hx3, hf3⟩
            case rest =>
              clear hr3 hx3 hf3
              obtain ⟨hr3, hx3, hf3⟩ := hcut
              obtain ⟨D2, hD2⟩ : ∃ D2, D2 = fixDown lt a kx D := ⟨_, rfl⟩
              rw [← hD2] at hr3 HGO
              clear hD2
              by_cases hbk : b - kx ≥ 2
              · have hbkz : (2 : Int) ≤ (b : Int) - (kx : Int) := by omega
                have HF : Hid (fixUp lt b kx D2 = shiftUp lt b (kx + 1) D2) := Lib.hid (by unfold fixUp; rw [if_pos hbk])
                go_wp2_with fail
                go_loopw [10] (fun vj wr4 => ∃ (j : Nat) (dj : Array Hit), vj = .int .i64 j ∧ kx + 1 ≤ j ∧ j ≤ b ∧ shiftUp lt b j dj = shiftUp lt b (kx + 1) D2 ∧ Rw w0 blk off n wr4 dj ∧ Bx wr4 W.heap.size g lb sf sb ∧ Foot W wr4 (fun g => g ≠ blk)) (fun vj _ => b - (intOf vj).toNat)
                case atStart => exact ⟨kx + 1, D2, by go_num, Nat.le_refl _, by omega, rfl, hr3, hx3, hf3⟩
                case round =>
                  obtain ⟨j, dj, rfl, hkj, hjb, hE, hr4, hx4, hf4⟩ := hrel
                  have HE := Lib.hid hE
                  clear hE hr3 hx3 hf3
                  have c0 := hx4.c0
                  by_cases hj1 : j < b
                  · cases hlv : lt dj[j]! dj[j - 1]!
                    all_goals
                      have HLV := Lib.hid hlv
                      clear hlv
                      have hl := L.at_ hr4 (i := j) (j := j - 1) (x := (j : Int)) (y := (j : Int) - 1) (by omega) (by omega) rfl (by omega) HLV.out
                    · go_wp2_with (go_at_fn g; refine hl.mono ?_; rintro e w1 ⟨rfl, hb1⟩)
                      go_roundw
                      case rel => exact ⟨kx, s + 1, dj, rfl, by go_num, by omega, by omega, by omega, by rw [← HO.out, HGO.out, HF.out, ← HE.out, shiftUp_stop lt b j dj (.inr HLV.out)], hr4.below hb1, hx4.below hb1, hf4.trans (Foot.ofBelow hb1 _)⟩
                      case measure => simp [intOf]; omega
                    · go_wp2_with (go_at_fn g; refine hl.mono ?_; rintro e w1 ⟨rfl, hb1⟩; have c3 := (hx4.below hb1).c1)
                      have hr5 := hr4.below hb1
                      rw [L.sw hr5 (i := j) (j := j - 1) (x := (j : Int)) (y := (j : Int) - 1) (by omega) (by omega) rfl (by omega), Oper.upon_value]
                      have hfs := foot_swapW (blk := blk) (off := off) w1 dj j (j - 1)
                      go_wp2_with fail
                      go_roundw
                      case rel => exact ⟨j + 1, swp dj j (j - 1), by go_num, by omega, by omega, by rw [← HE.out, shiftUp_go lt b j dj hj1 HLV.out], hr5.swap _ _ (by omega) (by omega), (hx4.below hb1).foot hfs hne, (hf4.trans (Foot.ofBelow hb1 _)).trans hfs⟩
                      case measure => simp [intOf]; omega
                  · go_wp2_with fail
                    go_roundw
                    case rel => exact ⟨kx, s + 1, dj, rfl, by go_num, by omega, by omega, by omega, by rw [← HO.out, HGO.out, HF.out, ← HE.out, shiftUp_stop lt b j dj (.inl hj1)], hr4, hx4, hf4⟩
                    case measure => simp [intOf]; omega
              · have hbkz : ¬ (2 : Int) ≤ (b : Int) - (kx : Int) := by omega
                go_wp2_with fail
                go_roundw
                case rel => exact ⟨kx, s + 1, D2, rfl, by go_num, by omega, by omega, by omega, by rw [← HO.out, HGO.out]; unfold fixUp; rw [if_neg hbk], hr3, hx3, hf3⟩
                case measure => simp [intOf]; omega
        · obtain rfl : kx = b := by omega
          have HV : Hid (partialInsertionSort lt d a kx = (dk, true)) := Lib.hid (by unfold partialInsertionSort; rw [← HO.out, pi_true lt a kx s i dk hs HK.out])
          go_wp2_with fail
          go_ret
          rw [HV.out]
          exact ⟨rfl, hr, hf⟩
    · obtain rfl : s = 5 := by omega
      have HV : Hid (partialInsertionSort lt d a b = (dk, false)) := Lib.hid (by unfold partialInsertionSort; rw [← HO.out, pi_end])
      go_wp2_with fail
      go_ret
      rw [HV.out]
      exact ⟨rfl, hr, hf⟩
end
end Go.Proofs.Ytmddnilephneiaa.SortPartial
