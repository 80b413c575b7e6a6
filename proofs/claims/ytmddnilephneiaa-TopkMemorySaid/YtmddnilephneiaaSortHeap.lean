/-
  The walks of sort.siftDown_func, heapSort_func where 'less' may make memory.
-/
import Derived.Test.YtmddnilephneiaaSortBase
namespace Go.Proofs.Ytmddnilephneiaa.SortHeap
open Go.Shelf Go.RowKit Go.Lib Go.Sort Go.PlainAid HitPlain Base HitBase SortBase

section
variable {w0 : World} {blk off n g sf : Nat} {lb sb : Array Value} {lt : Hit → Hit → Bool}

set_option maxHeartbeats 4000000 in
theorem sift_any (L : Ls w0 blk off n g lb sf sb lt) (W : World) (d : Array Hit) (hR : Rw w0 blk off n W d) (lo hi first : Nat) (hlo : lo ≤ hi) (hb : first + hi ≤ n) :
    Calls Try.prog 61 #[.agg #[.func (.func g) #[] lb, .func (.func sf) #[] sb], .int .i64 lo, .int .i64 hi, .int .i64 first] W fun e w' => e = .returned (.tuple #[]) ∧ SortLeaves w0 blk off n W (siftDown lt hi first lo d) w' := by
  have hne : W.heap.size ≠ blk := by have := hR.ltW; omega
  have hbig := L.big
  have eg := L.enter
  go_enter Try.func61, Try.ntmps61
  go_wp2
  go_loopw [8] (fun s8 wr => ∃ (root : Nat) (dk : Array Hit), s8 = .int .i64 root ∧ root ≤ hi ∧ siftDown lt hi first root dk = siftDown lt hi first lo d ∧ Rw w0 blk off n wr dk ∧ Bx wr W.heap.size g lb sf sb ∧ Foot W wr (fun g => g ≠ blk)) (fun s8 _ => hi - (intOf s8).toNat)
  case atStart => exact ⟨lo, d, rfl, hlo, rfl, hR.alloc _, Bx.new _ _ _ _ _, (Foot.refl _ _).alloc _⟩
  case round =>
    obtain ⟨root, dk, rfl, hr, hE, hr2, hx2, hf2⟩ := hrel
    have HE := Lib.hid hE
    clear hE hR
    have c0 := hx2.c0
    have c1 := hx2.c1
    by_cases h0 : hi ≤ 2 * root + 1
    · have h0z : (hi : Int) ≤ 2 * (root : Int) + 1 := by omega
      go_wp2
      exact bodyPost_end (results_none rfl _ _ _) rfl ⟨rfl, by rw [← HE.out, sd_end lt dk h0]; exact hr2, hf2⟩
    · have h0z : ¬ ((hi : Int) ≤ 2 * (root : Int) + 1) := by omega
      by_cases h1 : 2 * root + 2 < hi
      · have h1z : 2 * (root : Int) + 1 + 1 < (hi : Int) := by omega
        cases hL : lt dk[first + (2 * root + 1)]! dk[first + (2 * root + 2)]!
        · have HL := Lib.hid hL
          have hl1 := L.at_ hr2 (i := first + (2 * root + 1)) (j := first + (2 * root + 2)) (x := (first : Int) + (2 * (root : Int) + 1)) (y := (first : Int) + (2 * (root : Int) + 1) + 1) (by omega) (by omega) (by omega) (by omega) HL.out
          clear hL
          go_wp2_with (go_at_fn g; refine hl1.mono ?_; rintro e w1 ⟨rfl, hb1⟩; have c2 := (hx2.below hb1).c0)
          clear hl1
          have hr3 := hr2.below hb1
          have hx3 := hx2.below hb1
          have hf3 := hf2.trans (Foot.ofBelow hb1 (fun g => g ≠ blk))
          cases hG : lt dk[first + root]! dk[first + (2 * root + 1)]!
          all_goals
            have HG := Lib.hid hG
            have hl2 := L.at_ hr3 (i := first + root) (j := first + (2 * root + 1)) (x := (first : Int) + (root : Int)) (y := (first : Int) + (2 * (root : Int) + 1)) (by omega) (by omega) (by omega) (by omega) HG.out
            clear hG
            go_at_fn g
            refine hl2.mono ?_
            rintro e w2 ⟨rfl, hb2⟩
            have hx4 := hx3.below hb2
            have c3 := hx4.c1
            have hr4 := hr3.below hb2
            have hf4 := hf3.trans (Foot.ofBelow hb2 (fun g => g ≠ blk))
            go_wp2
          · (try simp only [Exit.inBlock, Exit.then])
            refine bodyPost_ret (results_none rfl _ _ _) rfl ?_
            exact ⟨rfl, by rw [← HE.out, sd_left_stop lt dk (by omega) (fun _ => HL.out) HG.out]; exact hr4, hf4⟩
          · rw [L.sw hr4 (i := first + root) (j := first + (2 * root + 1)) (x := (first : Int) + (root : Int)) (y := (first : Int) + (2 * (root : Int) + 1)) (by omega) (by omega) (by omega) (by omega), Oper.upon_value]
            go_wp2
            go_roundw
            case rel =>
              have hfs := foot_swapW (blk := blk) (off := off) w2 dk (first + root) (first + (2 * root + 1))
              exact ⟨2 * root + 1, swp dk (first + root) (first + (2 * root + 1)), by go_num, by omega, by rw [← HE.out, sd_left_go lt dk (by omega) (fun _ => HL.out) HG.out], hr4.swap _ _ (by omega) (by omega), hx4.foot hfs hne, hf4.trans hfs⟩
            case measure => simp [intOf]; omega
        · have HL := Lib.hid hL
          have hl1 := L.at_ hr2 (i := first + (2 * root + 1)) (j := first + (2 * root + 2)) (x := (first : Int) + (2 * (root : Int) + 1)) (y := (first : Int) + (2 * (root : Int) + 1) + 1) (by omega) (by omega) (by omega) (by omega) HL.out
          clear hL
          go_wp2_with (go_at_fn g; refine hl1.mono ?_; rintro e w1 ⟨rfl, hb1⟩; have c2 := (hx2.below hb1).c0)
          clear hl1
          have hr3 := hr2.below hb1
          have hx3 := hx2.below hb1
          have hf3 := hf2.trans (Foot.ofBelow hb1 (fun g => g ≠ blk))
          cases hG : lt dk[first + root]! dk[first + (2 * root + 2)]!
          all_goals
            have HG := Lib.hid hG
            have hl2 := L.at_ hr3 (i := first + root) (j := first + (2 * root + 2)) (x := (first : Int) + (root : Int)) (y := (first : Int) + (2 * (root : Int) + 1 + 1)) (by omega) (by omega) (by omega) (by omega) HG.out
            clear hG
            go_at_fn g
            refine hl2.mono ?_
            rintro e w2 ⟨rfl, hb2⟩
            have hx4 := hx3.below hb2
            have c3 := hx4.c1
            have hr4 := hr3.below hb2
            have hf4 := hf3.trans (Foot.ofBelow hb2 (fun g => g ≠ blk))
            go_wp2
          · (try simp only [Exit.inBlock, Exit.then])
            refine bodyPost_ret (results_none rfl _ _ _) rfl ?_
            exact ⟨rfl, by rw [← HE.out, sd_right_stop lt dk h1 HL.out HG.out]; exact hr4, hf4⟩
          · rw [L.sw hr4 (i := first + root) (j := first + (2 * root + 2)) (x := (first : Int) + (root : Int)) (y := (first : Int) + (2 * (root : Int) + 1 + 1)) (by omega) (by omega) (by omega) (by omega), Oper.upon_value]
            go_wp2
            go_roundw
            case rel =>
              have hfs := foot_swapW (blk := blk) (off := off) w2 dk (first + root) (first + (2 * root + 2))
              exact ⟨2 * root + 2, swp dk (first + root) (first + (2 * root + 2)), by go_num, by omega, by rw [← HE.out, sd_right_go lt dk h1 HL.out HG.out], hr4.swap _ _ (by omega) (by omega), hx4.foot hfs hne, hf4.trans hfs⟩
            case measure => simp [intOf]; omega
      · have h1z : ¬ (2 * (root : Int) + 1 + 1 < (hi : Int)) := by omega
        cases hG : lt dk[first + root]! dk[first + (2 * root + 1)]!
        all_goals
          have HG := Lib.hid hG
          have hl2 := L.at_ hr2 (i := first + root) (j := first + (2 * root + 1)) (x := (first : Int) + (root : Int)) (y := (first : Int) + (2 * (root : Int) + 1)) (by omega) (by omega) (by omega) (by omega) HG.out
          clear hG
          go_wp2_with (go_at_fn g; refine hl2.mono ?_; rintro e w2 ⟨rfl, hb2⟩; have c3 := (hx2.below hb2).c1)
          have hx4 := hx2.below hb2
          have hr4 := hr2.below hb2
          have hf4 := hf2.trans (Foot.ofBelow hb2 (fun g => g ≠ blk))
        · (try simp only [Exit.inBlock, Exit.then])
          refine bodyPost_ret (results_none rfl _ _ _) rfl ?_
          exact ⟨rfl, by rw [← HE.out, sd_left_stop lt dk (by omega) (fun h => absurd h h1) HG.out]; exact hr4, hf4⟩
        · rw [L.sw hr4 (i := first + root) (j := first + (2 * root + 1)) (x := (first : Int) + (root : Int)) (y := (first : Int) + (2 * (root : Int) + 1)) (by omega) (by omega) (by omega) (by omega), Oper.upon_value]
          go_wp2
          go_roundw
          case rel =>
            have hfs := foot_swapW (blk := blk) (off := off) w2 dk (first + root) (first + (2 * root + 1))
            exact ⟨2 * root + 1, swp dk (first + root) (first + (2 * root + 1)), by go_num, by omega, by rw [← HE.out, sd_left_go lt dk (by omega) (fun h => absurd h h1) HG.out], hr4.swap _ _ (by omega) (by omega), hx4.foot hfs hne, hf4.trans hfs⟩
          case measure => simp [intOf]; omega

set_option maxHeartbeats 4000000 in
theorem heap_any (L : Ls w0 blk off n g lb sf sb lt) (W : World) (d : Array Hit) (hR : Rw w0 blk off n W d) (a b : Nat) (hab : a < b) (hb : b ≤ n) :
    Calls Try.prog 54 #[.agg #[.func (.func g) #[] lb, .func (.func sf) #[] sb], .int .i64 a, .int .i64 b] W fun e w' => e = .returned (.tuple #[]) ∧ SortLeaves w0 blk off n W (heapSort lt d a b) w' := by
  have hne : W.heap.size ≠ blk := by have := hR.ltW; omega
  have hbig := L.big
  have ecast : (b : Int) - (a : Int) = ((b - a : Nat) : Int) := by omega
  have hm : ∃ m, m = b - a := ⟨_, rfl⟩
  obtain ⟨m, hm⟩ := hm
  have HM := Lib.hid hm
  rw [← hm] at ecast
  have hm0 : 0 < m := by omega
  have hma : a + m ≤ n := by omega
  have hst : ((m : Int) - 1) / 2 = (((m - 1) / 2 + 1 : Nat) : Int) - 1 := by omega
  have HST := Lib.hid hst
  clear hm hst
  have EC := Lib.hid ecast
  clear ecast
  go_enter Try.func54, Try.ntmps54
  go_wp2
  rw [EC.out]
  go_wp2
  go_loopw [9] (fun s9 wr => ∃ (kx : Nat) (dk : Array Hit), s9 = .int .i64 ((kx : Int) - 1) ∧ kx ≤ (m - 1) / 2 + 1 ∧ heapBuild lt m a kx dk = heapBuild lt m a ((m - 1) / 2 + 1) d ∧ Rw w0 blk off n wr dk ∧ Bx wr W.heap.size g lb sf sb ∧ Foot W wr (fun g => g ≠ blk)) (fun s9 _ => (intOf s9 + 1).toNat)
  case atStart => exact ⟨(m - 1) / 2 + 1, d, by rw [HST.out], Nat.le_refl _, rfl, hR.alloc _, Bx.new _ _ _ _ _, (Foot.refl _ _).alloc _⟩
  case round =>
    obtain ⟨kx, dk, rfl, hkk, hE, hr2, hx2, hf2⟩ := hrel
    have HE := Lib.hid hE
    clear hE hR
    have c0 := hx2.c0
    have c1 := hx2.c1
    by_cases hk0 : kx < 1
    · have hk1 : (kx : Int) < 1 := by omega
      go_wp2
      go_loopw [10] (fun s10 wr2 => ∃ (kx : Nat) (dj : Array Hit), s10 = .int .i64 ((kx : Int) - 1) ∧ kx ≤ m ∧ heapPop lt a kx dj = heapPop lt a m dk ∧ Rw w0 blk off n wr2 dj ∧ Bx wr2 W.heap.size g lb sf sb ∧ Foot W wr2 (fun g => g ≠ blk)) (fun s10 _ => (intOf s10 + 1).toNat)
      case atStart => exact ⟨m, dk, rfl, Nat.le_refl _, rfl, hr2, hx2, hf2⟩
      case round =>
        clear hr2 hx2 hf2 c0 c1
        obtain ⟨ky, dj, rfl, hkk, hE2, hr2, hx2, hf2⟩ := hrel
        have HE2 := Lib.hid hE2
        clear hE2
        have c0 := hx2.c0
        have c1 := hx2.c1
        rcases ky with _ | ky
        · go_wp2
          go_end0
          have e : dj = heapSort lt d a b := by
            unfold heapSort
            rw [← HM.out, ← HE.out, show kx = 0 by omega]
            exact HE2.out
          exact ⟨rfl, by rw [← e]; exact hr2, hf2⟩
        · have hs := L.sw hr2 (i := a) (j := a + ky) (x := (a : Int)) (y := (a : Int) + (ky : Int)) (by omega) (by omega) rfl (by omega)
          have hfs := foot_swapW (blk := blk) (off := off) wr dj a (a + ky)
          have hr3 := hr2.swap a (a + ky) (by omega) (by omega)
          have hx3 := hx2.foot hfs hne
          have hf3 := hf2.trans hfs
          generalize swapW wr blk off dj a (a + ky) = w2 at hs hfs hr3 hx3 hf3
          have c2 := hx3.c0
          have c3 := hx3.c1
          go_wp2_with (go_at_call 61; refine (sift_any L w2 _ hr3 0 ky a (Nat.zero_le _) (by omega)).mono ?_; rintro e w3 ⟨rfl, hl3⟩)
          go_roundw
          case rel => exact ⟨ky, siftDown lt ky a 0 (swp dj a (a + ky)), by go_num, by omega, HE2.out, hl3.1, hx3.foot hl3.2 hne, hf3.trans hl3.2⟩
          case measure => first | (simp [intOf]; done) | (simp [intOf]; omega)
    · obtain ⟨q, rfl⟩ : ∃ q, kx = q + 1 := ⟨kx - 1, by omega⟩
      clear hk0
      go_wp2_with (go_at_call 61; refine (sift_any L _ _ hr2 q m a (by omega) (by omega)).mono ?_; rintro e w3 ⟨rfl, hl3⟩)
      go_roundw
      case rel => exact ⟨q, siftDown lt m a q dk, by go_num, by omega, HE.out, hl3.1, hx2.foot hl3.2 hne, hf2.trans hl3.2⟩
      case measure => first | (simp [intOf]; done) | (simp [intOf]; omega)
end
end Go.Proofs.Ytmddnilephneiaa.SortHeap
