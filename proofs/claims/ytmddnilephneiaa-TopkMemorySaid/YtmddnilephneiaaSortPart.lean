/-
  The walks of sort.partition_func, partitionEqual_func where 'less' may make memory.
-/
import Derived.Test.YtmddnilephneiaaSortBase
import Derived.Deep.CutBlock
namespace Go.Proofs.Ytmddnilephneiaa.SortPart
open Go.Shelf Go.RowKit Go.Lib Go.Sort Go.PlainAid HitPlain Base HitBase SortBase

section
variable {w0 : World} {blk off n g sf : Nat} {lb sb : Array Value} {lt : Hit → Hit → Bool}

set_option maxRecDepth 100000 in
set_option maxHeartbeats 16000000 in
theorem part_any (L : Ls w0 blk off n g lb sf sb lt) (W : World) (d : Array Hit) (hR : Rw w0 blk off n W d) (a b pivot : Nat) (hap : a ≤ pivot) (hpb : pivot < b) (hb : b ≤ n) :
    Calls Try.prog 60 #[.agg #[.func (.func g) #[] lb, .func (.func sf) #[] sb], .int .i64 a, .int .i64 b, .int .i64 pivot] W fun e w' => e = .returned (.tuple #[.int .i64 (partition lt d a b pivot).1, .bool (partition lt d a b pivot).2.1]) ∧ SortLeaves w0 blk off n W (partition lt d a b pivot).2.2 w' := by
  have hne : W.heap.size ≠ blk := by have := hR.ltW; omega
  have hbig := L.big
  have eg := L.enter
  obtain ⟨j0, rfl⟩ : ∃ j0, b = j0 + 1 := ⟨b - 1, by omega⟩
  have hr0 := hR.alloc (.cells #[.func (.func g) #[] lb, .func (.func sf) #[] sb] 74)
  have hx0 := Bx.new W g lb sf sb
  have hf0 : Foot W (W.alloc (.cells #[.func (.func g) #[] lb, .func (.func sf) #[] sb] 74)) (fun g => g ≠ blk) := (Foot.refl _ _).alloc _
  have hs0 := L.sw hr0 (i := a) (j := pivot) (x := (a : Int)) (y := (pivot : Int)) (by omega) (by omega) rfl rfl
  have hfs := foot_swapW (blk := blk) (off := off) (W.alloc (.cells #[.func (.func g) #[] lb, .func (.func sf) #[] sb] 74)) d a pivot
  have hr1 := hr0.swap a pivot (by omega) (by omega)
  have hx1 := hx0.foot hfs hne
  have hf1 := hf0.trans hfs
  generalize swapW (W.alloc (.cells #[.func (.func g) #[] lb, .func (.func sf) #[] sb] 74)) blk off d a pivot = W1 at hs0 hr1 hx1 hf1
  obtain ⟨D, hD⟩ : ∃ D, D = swp d a pivot := ⟨_, rfl⟩
  have HD := Lib.hid hD
  rw [← hD] at hr1
  clear hfs hr0 hx0 hf0 hD hR
  rw [show ((j0 + 1 : Nat) : Int) = (j0 : Int) + 1 by omega]
  go_enter Try.func60, Try.ntmps60
  go_upto_block 0 with fail
  go_cut [10] from 21 to 32 (fun si wx => ∃ i2 : Nat, si = .int .i64 i2 ∧ i2 = scanUp (fun x => lt x D[a]!) D j0 (a + 1) ∧ a + 1 ≤ i2 ∧ i2 ≤ j0 + 1 ∧ (i2 ≤ j0 → lt D[i2]! D[a]! = false) ∧ Rw w0 blk off n wx D ∧ Bx wx W.heap.size g lb sf sb ∧ Foot W wx (fun g => g ≠ blk))
  case first =>
    go_wp2_with fail
    go_loopw [10] (fun si wr => ∃ i2 : Nat, si = .int .i64 i2 ∧ a + 1 ≤ i2 ∧ i2 ≤ j0 + 1 ∧ scanUp (fun x => lt x D[a]!) D j0 i2 = scanUp (fun x => lt x D[a]!) D j0 (a + 1) ∧ Rw w0 blk off n wr D ∧ Bx wr W.heap.size g lb sf sb ∧ Foot W wr (fun g => g ≠ blk)) (fun si _ => j0 + 1 - (intOf si).toNat)
    case atStart => exact ⟨a + 1, by go_num, Nat.le_refl _, by omega, rfl, hr1, hx1, hf1⟩
    case round =>
      obtain ⟨i2, rfl, h1, h2, hE, hr2, hx2, hf2⟩ := hrel
      have HE := Lib.hid hE
      clear hE hr1 hx1 hf1
      have c0 := hx2.c0
      by_cases hle : i2 ≤ j0
      · cases hlv : lt D[i2]! D[a]!
        all_goals
          have HLV := Lib.hid hlv
          clear hlv
        ·
          have hl := L.at_ hr2 (i := i2) (j := a) (x := (i2 : Int)) (y := (a : Int)) (by omega) (by omega) rfl rfl HLV.out
          go_wp2_with (go_at_fn g; refine hl.mono ?_; rintro e w1 ⟨rfl, hb1⟩)
          go_meet
          exact ⟨i2, rfl, HE.out.symm.trans (scanUp_end (fun x => lt x D[a]!) D j0 i2 (.inr (by simp [HLV.out]))) |>.symm, h1, h2, fun _ => HLV.out, hr2.below hb1, hx2.below hb1, hf2.trans (Foot.ofBelow hb1 _)⟩
        ·
          have hl := L.at_ hr2 (i := i2) (j := a) (x := (i2 : Int)) (y := (a : Int)) (by omega) (by omega) rfl rfl HLV.out
          go_wp2_with (go_at_fn g; refine hl.mono ?_; rintro e w1 ⟨rfl, hb1⟩)
          go_roundw
          case rel => exact ⟨i2 + 1, by go_num, by omega, by omega, (scanUp_go (fun x => lt x D[a]!) D j0 i2 hle (by simp [HLV.out])).symm.trans HE.out, hr2.below hb1, hx2.below hb1, hf2.trans (Foot.ofBelow hb1 _)⟩
          case measure => simp [intOf]; omega
      · go_wp2_with fail
        go_meet
        exact ⟨i2, rfl, (HE.out.symm.trans (scanUp_end (fun x => lt x D[a]!) D j0 i2 (.inl hle))).symm, h1, h2, fun h => absurd h hle, hr2, hx2, hf2⟩
  case rest =>
    clear hr1 hx1 hf1
    obtain ⟨i0, rfl, hsu, hi1, hi2, hst, hr, hx, hf⟩ := hcut
    have HSU := Lib.hid hsu
    clear hsu
    go_upto_block 2 with fail
    go_cut [11] from 33 to 45 (fun sj wx => ∃ j2 : Nat, sj = .int .i64 j2 ∧ j2 = scanDown (fun x => !lt x D[a]!) D i0 j0 ∧ j2 ≤ j0 ∧ i0 ≤ j2 + 1 ∧ (i0 ≤ j2 → lt D[j2]! D[a]! = true) ∧ Rw w0 blk off n wx D ∧ Bx wx W.heap.size g lb sf sb ∧ Foot W wx (fun g => g ≠ blk))
    case first =>
      go_wp2_with fail
      go_loopw [11] (fun sj wr => ∃ j2 : Nat, sj = .int .i64 j2 ∧ j2 ≤ j0 ∧ i0 ≤ j2 + 1 ∧ scanDown (fun x => !lt x D[a]!) D i0 j2 = scanDown (fun x => !lt x D[a]!) D i0 j0 ∧ Rw w0 blk off n wr D ∧ Bx wr W.heap.size g lb sf sb ∧ Foot W wr (fun g => g ≠ blk)) (fun sj _ => (intOf sj).toNat)
      case atStart => exact ⟨j0, rfl, Nat.le_refl _, by omega, rfl, hr, hx, hf⟩
      case round =>
        obtain ⟨j2, rfl, h1, h2, hE, hr2, hx2, hf2⟩ := hrel
        have HE := Lib.hid hE
        clear hE hr hx hf
        have c0 := hx2.c0
        by_cases hle : i0 ≤ j2
        · cases hlv : lt D[j2]! D[a]!
          all_goals
            have HLV := Lib.hid hlv
            clear hlv
          ·
            have hl := L.at_ hr2 (i := j2) (j := a) (x := (j2 : Int)) (y := (a : Int)) (by omega) (by omega) rfl rfl HLV.out
            go_wp2_with (go_at_fn g; refine hl.mono ?_; rintro e w1 ⟨rfl, hb1⟩)
            go_roundw
            case rel => exact ⟨j2 - 1, by congr 1; omega, by omega, by omega, (scanDown_go (fun x => !lt x D[a]!) D i0 j2 hle (by omega) (by simp [HLV.out])).symm.trans HE.out, hr2.below hb1, hx2.below hb1, hf2.trans (Foot.ofBelow hb1 _)⟩
            case measure => simp [intOf]; omega
          ·
            have hl := L.at_ hr2 (i := j2) (j := a) (x := (j2 : Int)) (y := (a : Int)) (by omega) (by omega) rfl rfl HLV.out
            go_wp2_with (go_at_fn g; refine hl.mono ?_; rintro e w1 ⟨rfl, hb1⟩)
            go_meet
            exact ⟨j2, rfl, HE.out.symm.trans (scanDown_end (fun x => !lt x D[a]!) D i0 j2 (.inr (by simp [HLV.out]))) |>.symm, h1, h2, fun _ => HLV.out, hr2.below hb1, hx2.below hb1, hf2.trans (Foot.ofBelow hb1 _)⟩
        · go_wp2_with fail
          go_meet
          exact ⟨j2, rfl, (HE.out.symm.trans (scanDown_end (fun x => !lt x D[a]!) D i0 j2 (.inl hle))).symm, h1, h2, fun h => absurd h hle, hr2, hx2, hf2⟩
    case rest =>
      clear hr hx hf
      obtain ⟨k0, rfl, hsd, hj1, hj2, hst2, hr, hx, hf⟩ := hcut
      have HSD := Lib.hid hsd
      clear hsd
      have c1 := hx.c1
      by_cases hgt : k0 < i0
      · have HEQ : Hid (partition lt d a (j0 + 1) pivot = (k0, true, swp D k0 a)) := Lib.hid (by
          unfold partition
          rw [← HD.out]
          simp only [Nat.add_sub_cancel]
          rw [← HSU.out, ← HSD.out, if_pos hgt])
        have hs := L.sw hr (i := k0) (j := a) (x := (k0 : Int)) (y := (a : Int)) (by omega) (by omega) rfl rfl
        have hfs := foot_swapW (blk := blk) (off := off) wc D k0 a
        have hr3 := hr.swap k0 a (by omega) (by omega)
        have hf3 := hf.trans hfs
        generalize swapW wc blk off D k0 a = W3 at hs hr3 hf3
        clear hfs hr hx hf hst hst2
        go_wp2_with fail
        go_ret2
        rw [HEQ.out]
        exact ⟨rfl, hr3, hf3⟩
      · have hlt3 : i0 < k0 := by
          rcases Nat.lt_or_ge i0 k0 with h | h
          · exact h
          · exfalso
            have e : i0 = k0 := by omega
            have h1 := hst (by omega)
            have h2 := hst2 (by omega)
            rw [e, h2] at h1
            cases h1
        clear hst hst2
        have HEQ : Hid (partition lt d a (j0 + 1) pivot = ((partLoop lt a (i0 + 1) (k0 - 1) (swp D i0 k0)).1, false, swp (partLoop lt a (i0 + 1) (k0 - 1) (swp D i0 k0)).2 (partLoop lt a (i0 + 1) (k0 - 1) (swp D i0 k0)).1 a)) := Lib.hid (by
          unfold partition
          rw [← HD.out]
          simp only [Nat.add_sub_cancel]
          rw [← HSU.out, ← HSD.out, if_neg hgt])
        have hs := L.sw hr (i := i0) (j := k0) (x := (i0 : Int)) (y := (k0 : Int)) (by omega) (by omega) rfl rfl
        have hfs := foot_swapW (blk := blk) (off := off) wc D i0 k0
        have hr3 := hr.swap i0 k0 (by omega) (by omega)
        have hx3 := hx.foot hfs hne
        have hf3 := hf.trans hfs
        generalize swapW wc blk off D i0 k0 = W3 at hs hr3 hx3 hf3
        clear hfs hr hx hf HSU HSD
        go_wp2_with fail
        go_loopw [10, 11] (fun vi vj wr => ∃ (i j : Nat) (dk : Array Hit), vi = .int .i64 i ∧ vj = .int .i64 j ∧ a < i ∧ i ≤ j + 1 ∧ j ≤ j0 ∧ partLoop lt a i j dk = partLoop lt a (i0 + 1) (k0 - 1) (swp D i0 k0) ∧ Rw w0 blk off n wr dk ∧ Bx wr W.heap.size g lb sf sb ∧ Foot W wr (fun g => g ≠ blk)) (fun vi vj _ => (intOf vj).toNat + 1 - (intOf vi).toNat)
        case atStart => exact ⟨i0 + 1, k0 - 1, _, by go_num, by congr 1; omega, by omega, by omega, by omega, rfl, hr3, hx3, hf3⟩
        case round =>
          obtain ⟨i, j, dk, rfl, rfl, hai, hij, hjb, hE0, hr, hx, hf⟩ := hrel
          have HE0 := Lib.hid hE0
          clear hE0 hr3 hx3 hf3 hs
          rename World => Wl
          go_upto_block 6 with fail
          go_cut [10] from 64 to 75 (fun si wx => ∃ i2 : Nat, si = .int .i64 i2 ∧ i2 = scanUp (fun x => lt x dk[a]!) dk j (i) ∧ i ≤ i2 ∧ i2 ≤ j + 1 ∧ (i2 ≤ j → lt dk[i2]! dk[a]! = false) ∧ Rw w0 blk off n wx dk ∧ Bx wx W.heap.size g lb sf sb ∧ Foot W wx (fun g => g ≠ blk))
          case first =>
            go_wp2_with fail
            go_loopw [10] (fun si wr => ∃ i2 : Nat, si = .int .i64 i2 ∧ i ≤ i2 ∧ i2 ≤ j + 1 ∧ scanUp (fun x => lt x dk[a]!) dk j i2 = scanUp (fun x => lt x dk[a]!) dk j (i) ∧ Rw w0 blk off n wr dk ∧ Bx wr W.heap.size g lb sf sb ∧ Foot W wr (fun g => g ≠ blk)) (fun si _ => j + 1 - (intOf si).toNat)
            case atStart => exact ⟨i, rfl, Nat.le_refl _, by omega, rfl, hr, hx, hf⟩
            case round =>
              obtain ⟨i2, rfl, h1, h2, hE, hr2, hx2, hf2⟩ := hrel
              have HE := Lib.hid hE
              clear hE hr hx hf
              have c0 := hx2.c0
              by_cases hle : i2 ≤ j
              · cases hlv : lt dk[i2]! dk[a]!
                all_goals
                  have HLV := Lib.hid hlv
                  clear hlv
                ·
                  have hl := L.at_ hr2 (i := i2) (j := a) (x := (i2 : Int)) (y := (a : Int)) (by omega) (by omega) rfl rfl HLV.out
                  go_wp2_with (go_at_fn g; refine hl.mono ?_; rintro e w1 ⟨rfl, hb1⟩)
                  go_meet
                  exact ⟨i2, rfl, HE.out.symm.trans (scanUp_end (fun x => lt x dk[a]!) dk j i2 (.inr (by simp [HLV.out]))) |>.symm, h1, h2, fun _ => HLV.out, hr2.below hb1, hx2.below hb1, hf2.trans (Foot.ofBelow hb1 _)⟩
                ·
                  have hl := L.at_ hr2 (i := i2) (j := a) (x := (i2 : Int)) (y := (a : Int)) (by omega) (by omega) rfl rfl HLV.out
                  go_wp2_with (go_at_fn g; refine hl.mono ?_; rintro e w1 ⟨rfl, hb1⟩)
                  go_roundw
                  case rel => exact ⟨i2 + 1, by go_num, by omega, by omega, (scanUp_go (fun x => lt x dk[a]!) dk j i2 hle (by simp [HLV.out])).symm.trans HE.out, hr2.below hb1, hx2.below hb1, hf2.trans (Foot.ofBelow hb1 _)⟩
                  case measure => simp [intOf]; omega
              · go_wp2_with fail
                go_meet
                exact ⟨i2, rfl, (HE.out.symm.trans (scanUp_end (fun x => lt x dk[a]!) dk j i2 (.inl hle))).symm, h1, h2, fun h => absurd h hle, hr2, hx2, hf2⟩
          case rest =>
            clear hr hx hf
            obtain ⟨i2, rfl, hsu, hi1, hi2, hst, hr, hx, hf⟩ := hcut
            have HSU := Lib.hid hsu
            clear hsu
            go_upto_block 8 with fail
            go_cut [11] from 76 to 88 (fun sj wx => ∃ j2 : Nat, sj = .int .i64 j2 ∧ j2 = scanDown (fun x => !lt x dk[a]!) dk i2 j ∧ j2 ≤ j ∧ i2 ≤ j2 + 1 ∧ (i2 ≤ j2 → lt dk[j2]! dk[a]! = true) ∧ Rw w0 blk off n wx dk ∧ Bx wx W.heap.size g lb sf sb ∧ Foot W wx (fun g => g ≠ blk))
            case first =>
              go_wp2_with fail
              go_loopw [11] (fun sj wr => ∃ j2 : Nat, sj = .int .i64 j2 ∧ j2 ≤ j ∧ i2 ≤ j2 + 1 ∧ scanDown (fun x => !lt x dk[a]!) dk i2 j2 = scanDown (fun x => !lt x dk[a]!) dk i2 j ∧ Rw w0 blk off n wr dk ∧ Bx wr W.heap.size g lb sf sb ∧ Foot W wr (fun g => g ≠ blk)) (fun sj _ => (intOf sj).toNat)
              case atStart => exact ⟨j, rfl, Nat.le_refl _, by omega, rfl, hr, hx, hf⟩
              case round =>
                obtain ⟨j2, rfl, h1, h2, hE, hr2, hx2, hf2⟩ := hrel
                have HE := Lib.hid hE
                clear hE hr hx hf
                have c0 := hx2.c0
                by_cases hle : i2 ≤ j2
                · cases hlv : lt dk[j2]! dk[a]!
                  all_goals
                    have HLV := Lib.hid hlv
                    clear hlv
                  ·
                    have hl := L.at_ hr2 (i := j2) (j := a) (x := (j2 : Int)) (y := (a : Int)) (by omega) (by omega) rfl rfl HLV.out
                    go_wp2_with (go_at_fn g; refine hl.mono ?_; rintro e w1 ⟨rfl, hb1⟩)
                    go_roundw
                    case rel => exact ⟨j2 - 1, by congr 1; omega, by omega, by omega, (scanDown_go (fun x => !lt x dk[a]!) dk i2 j2 hle (by omega) (by simp [HLV.out])).symm.trans HE.out, hr2.below hb1, hx2.below hb1, hf2.trans (Foot.ofBelow hb1 _)⟩
                    case measure => simp [intOf]; omega
                  ·
                    have hl := L.at_ hr2 (i := j2) (j := a) (x := (j2 : Int)) (y := (a : Int)) (by omega) (by omega) rfl rfl HLV.out
                    go_wp2_with (go_at_fn g; refine hl.mono ?_; rintro e w1 ⟨rfl, hb1⟩)
                    go_meet
                    exact ⟨j2, rfl, HE.out.symm.trans (scanDown_end (fun x => !lt x dk[a]!) dk i2 j2 (.inr (by simp [HLV.out]))) |>.symm, h1, h2, fun _ => HLV.out, hr2.below hb1, hx2.below hb1, hf2.trans (Foot.ofBelow hb1 _)⟩
                · go_wp2_with fail
                  go_meet
                  exact ⟨j2, rfl, (HE.out.symm.trans (scanDown_end (fun x => !lt x dk[a]!) dk i2 j2 (.inl hle))).symm, h1, h2, fun h => absurd h hle, hr2, hx2, hf2⟩
            case rest =>
              clear hr hx hf
              obtain ⟨j2, rfl, hsd, hj1, hj2, hst2, hr, hx, hf⟩ := hcut
              have HSD := Lib.hid hsd
              clear hsd
              have c1 := hx.c1
              by_cases hgt : j2 < i2
              · have e := part_break lt a i j dk HSU.out HSD.out hgt
                have HEQ2 : Hid (partition lt d a (j0 + 1) pivot = (j2, false, swp dk j2 a)) := Lib.hid (by rw [HEQ.out, ← HE0.out, e])
                clear e hst hst2
                have hs := L.sw hr (i := j2) (j := a) (x := (j2 : Int)) (y := (a : Int)) (by omega) (by omega) rfl rfl
                have hfs := foot_swapW (blk := blk) (off := off) wc dk j2 a
                have hr3 := hr.swap j2 a (by omega) (by omega)
                have hf3 := hf.trans hfs
                generalize swapW wc blk off dk j2 a = W4 at hs hr3 hf3
                clear hfs hr hx hf
                go_wp2_with fail
                go_ret2
                rw [HEQ2.out]
                exact ⟨rfl, hr3, hf3⟩
              · have hlt4 : i2 < j2 := by
                  rcases Nat.lt_or_ge i2 j2 with h | h
                  · exact h
                  · exfalso
                    have e : i2 = j2 := by omega
                    have h1 := hst (by omega)
                    have h2 := hst2 (by omega)
                    rw [e, h2] at h1
                    cases h1
                have e := part_go lt a i j dk HSU.out HSD.out (by omega)
                have HEQ2 : Hid (partLoop lt a (i2 + 1) (j2 - 1) (swp dk i2 j2) = partLoop lt a (i0 + 1) (k0 - 1) (swp D i0 k0)) := Lib.hid (e.symm.trans HE0.out)
                clear e hst hst2
                have hs := L.sw hr (i := i2) (j := j2) (x := (i2 : Int)) (y := (j2 : Int)) (by omega) (by omega) rfl rfl
                have hfs := foot_swapW (blk := blk) (off := off) wc dk i2 j2
                have hr3 := hr.swap i2 j2 (by omega) (by omega)
                have hx3 := hx.foot hfs hne
                have hf3 := hf.trans hfs
                generalize swapW wc blk off dk i2 j2 = W3 at hs hr3 hx3 hf3
                clear hfs hr hx hf
                go_wp2_with fail
                go_roundw
                case rel => exact ⟨i2 + 1, j2 - 1, swp dk i2 j2, by go_num, by congr 1; omega, by omega, by omega, by omega, HEQ2.out, hr3, hx3, hf3⟩
                case measure => simp [intOf]; omega
end
end Go.Proofs.Ytmddnilephneiaa.SortPart
