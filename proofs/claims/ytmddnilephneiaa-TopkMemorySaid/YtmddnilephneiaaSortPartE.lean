/-
  The walks of sort.partition_func, partitionEqual_func where 'less' may make memory.
-/
import Derived.Test.YtmddnilephneiaaSortBase
import Derived.Deep.CutBlock
namespace Go.Proofs.Ytmddnilephneiaa.SortPartE
open Go.Shelf Go.RowKit Go.Lib Go.Sort Go.PlainAid HitPlain Base HitBase SortBase

section
variable {w0 : World} {blk off n g sf : Nat} {lb sb : Array Value} {lt : Hit → Hit → Bool}

set_option maxRecDepth 100000 in
set_option maxHeartbeats 16000000 in
theorem partEq_any (L : Ls w0 blk off n g lb sf sb lt) (W : World) (d : Array Hit) (hR : Rw w0 blk off n W d) (a b pivot : Nat) (hap : a ≤ pivot) (hpb : pivot < b) (hb : b ≤ n) :
    Calls Try.prog 59 #[.agg #[.func (.func g) #[] lb, .func (.func sf) #[] sb], .int .i64 a, .int .i64 b, .int .i64 pivot] W fun e w' => e = .returned (.int .i64 (partitionEqual lt d a b pivot).1) ∧ SortLeaves w0 blk off n W (partitionEqual lt d a b pivot).2 w' := by
  have hne : W.heap.size ≠ blk := by have := hR.ltW; omega
  have hbig := L.big
  have eg := L.enter
  obtain ⟨j0, rfl⟩ : ∃ j0, b = j0 + 1 := ⟨b - 1, by omega⟩
  have hr0 := hR.alloc (.cells #[.func (.func g) #[] lb, .func (.func sf) #[] sb] 74)
  have hx0 := Bx.new W g lb sf sb
  have hf0 : Foot W (W.alloc (.cells #[.func (.func g) #[] lb, .func (.func sf) #[] sb] 74)) (fun g => g ≠ blk) := (Foot.refl _ _).alloc _
  have hs0 := L.sw hr0 (i := a) (j := pivot) (x := (a : Int)) (y := (pivot : Int)) (by omega) (by omega) rfl rfl
  have hfs := foot_swapW (blk := blk) (off := off) (W.alloc (.cells #[.func (.func g) #[] lb, .func (.func sf) #[] sb] 74)) d a pivot
  have hr1 := hr0.swap a pivot (by omega) (by omega)
  have hx1 := hx0.foot hfs hne
  have hf1 := hf0.trans hfs
  generalize swapW (W.alloc (.cells #[.func (.func g) #[] lb, .func (.func sf) #[] sb] 74)) blk off d a pivot = W1 at hs0 hr1 hx1 hf1
  obtain ⟨D, hD⟩ : ∃ D, D = swp d a pivot := ⟨_, rfl⟩
  have HD := Lib.hid hD
  rw [← hD] at hr1
  clear hfs hr0 hx0 hf0 hD hR
  rw [show ((j0 + 1 : Nat) : Int) = (j0 : Int) + 1 by omega]
  go_enter Try.func59, Try.ntmps59
  go_wp2_with fail
  clear hs0
  go_loopw [9, 10] (fun vi vj wr => ∃ (i j : Nat) (dk : Array Hit), vi = .int .i64 i ∧ vj = .int .i64 j ∧ a < i ∧ i ≤ j + 1 ∧ j ≤ j0 ∧ partEqLoop lt a i j dk = partEqLoop lt a (a + 1) j0 D ∧ Rw w0 blk off n wr dk ∧ Bx wr W.heap.size g lb sf sb ∧ Foot W wr (fun g => g ≠ blk)) (fun vi vj _ => (intOf vj).toNat + 1 - (intOf vi).toNat)
  case atStart => exact ⟨a + 1, j0, D, by go_num, by go_num, by omega, by omega, Nat.le_refl _, rfl, hr1, hx1, hf1⟩
  case round =>
    obtain ⟨i, j, dk, rfl, rfl, hai, hij, hjb, hE0, hr, hx, hf⟩ := hrel
    have HE0 := Lib.hid hE0
    clear hE0 hr1 hx1 hf1
    rename World => Wl
    go_upto_block 2 with fail
    go_cut [9] from 20 to 32 (fun si wx => ∃ i2 : Nat, si = .int .i64 i2 ∧ i2 = scanUp (fun x => !lt dk[a]! x) dk j (i) ∧ i ≤ i2 ∧ i2 ≤ j + 1 ∧ (i2 ≤ j → lt dk[a]! dk[i2]! = true) ∧ Rw w0 blk off n wx dk ∧ Bx wx W.heap.size g lb sf sb ∧ Foot W wx (fun g => g ≠ blk))
    case first =>
      go_wp2_with fail
      go_loopw [9] (fun si wr => ∃ i2 : Nat, si = .int .i64 i2 ∧ i ≤ i2 ∧ i2 ≤ j + 1 ∧ scanUp (fun x => !lt dk[a]! x) dk j i2 = scanUp (fun x => !lt dk[a]! x) dk j (i) ∧ Rw w0 blk off n wr dk ∧ Bx wr W.heap.size g lb sf sb ∧ Foot W wr (fun g => g ≠ blk)) (fun si _ => j + 1 - (intOf si).toNat)
      case atStart => exact ⟨i, rfl, Nat.le_refl _, by omega, rfl, hr, hx, hf⟩
      case round =>
        obtain ⟨i2, rfl, h1, h2, hE, hr2, hx2, hf2⟩ := hrel
        have HE := Lib.hid hE
        clear hE hr hx hf
        have c0 := hx2.c0
        by_cases hle : i2 ≤ j
        · cases hlv : lt dk[a]! dk[i2]!
          all_goals
            have HLV := Lib.hid hlv
            clear hlv
          ·
            have hl := L.at_ hr2 (i := a) (j := i2) (x := (a : Int)) (y := (i2 : Int)) (by omega) (by omega) rfl rfl HLV.out
            go_wp2_with (go_at_fn g; refine hl.mono ?_; rintro e w1 ⟨rfl, hb1⟩)
            go_roundw
            case rel => exact ⟨i2 + 1, by go_num, by omega, by omega, (scanUp_go (fun x => !lt dk[a]! x) dk j i2 hle (by simp [HLV.out])).symm.trans HE.out, hr2.below hb1, hx2.below hb1, hf2.trans (Foot.ofBelow hb1 _)⟩
            case measure => simp [intOf]; omega
          ·
            have hl := L.at_ hr2 (i := a) (j := i2) (x := (a : Int)) (y := (i2 : Int)) (by omega) (by omega) rfl rfl HLV.out
            go_wp2_with (go_at_fn g; refine hl.mono ?_; rintro e w1 ⟨rfl, hb1⟩)
            go_meet
            exact ⟨i2, rfl, HE.out.symm.trans (scanUp_end (fun x => !lt dk[a]! x) dk j i2 (.inr (by simp [HLV.out]))) |>.symm, h1, h2, fun _ => HLV.out, hr2.below hb1, hx2.below hb1, hf2.trans (Foot.ofBelow hb1 _)⟩
        · go_wp2_with fail
          go_meet
          exact ⟨i2, rfl, (HE.out.symm.trans (scanUp_end (fun x => !lt dk[a]! x) dk j i2 (.inl hle))).symm, h1, h2, fun h => absurd h hle, hr2, hx2, hf2⟩
    case rest =>
      clear hr hx hf
      obtain ⟨i2, rfl, hsu, hi1, hi2, hst, hr, hx, hf⟩ := hcut
      have HSU := Lib.hid hsu
      clear hsu
      go_upto_block 4 with fail
      go_cut [10] from 33 to 44 (fun sj wx => ∃ j2 : Nat, sj = .int .i64 j2 ∧ j2 = scanDown (fun x => lt dk[a]! x) dk i2 j ∧ j2 ≤ j ∧ i2 ≤ j2 + 1 ∧ (i2 ≤ j2 → lt dk[a]! dk[j2]! = false) ∧ Rw w0 blk off n wx dk ∧ Bx wx W.heap.size g lb sf sb ∧ Foot W wx (fun g => g ≠ blk))
      case first =>
        go_wp2_with fail
        go_loopw [10] (fun sj wr => ∃ j2 : Nat, sj = .int .i64 j2 ∧ j2 ≤ j ∧ i2 ≤ j2 + 1 ∧ scanDown (fun x => lt dk[a]! x) dk i2 j2 = scanDown (fun x => lt dk[a]! x) dk i2 j ∧ Rw w0 blk off n wr dk ∧ Bx wr W.heap.size g lb sf sb ∧ Foot W wr (fun g => g ≠ blk)) (fun sj _ => (intOf sj).toNat)
        case atStart => exact ⟨j, rfl, Nat.le_refl _, by omega, rfl, hr, hx, hf⟩
        case round =>
          obtain ⟨j2, rfl, h1, h2, hE, hr2, hx2, hf2⟩ := hrel
          have HE := Lib.hid hE
          clear hE hr hx hf
          have c0 := hx2.c0
          by_cases hle : i2 ≤ j2
          · cases hlv : lt dk[a]! dk[j2]!
            all_goals
              have HLV := Lib.hid hlv
              clear hlv
            ·
              have hl := L.at_ hr2 (i := a) (j := j2) (x := (a : Int)) (y := (j2 : Int)) (by omega) (by omega) rfl rfl HLV.out
              go_wp2_with (go_at_fn g; refine hl.mono ?_; rintro e w1 ⟨rfl, hb1⟩)
              go_meet
              exact ⟨j2, rfl, HE.out.symm.trans (scanDown_end (fun x => lt dk[a]! x) dk i2 j2 (.inr (by simp [HLV.out]))) |>.symm, h1, h2, fun _ => HLV.out, hr2.below hb1, hx2.below hb1, hf2.trans (Foot.ofBelow hb1 _)⟩
            ·
              have hl := L.at_ hr2 (i := a) (j := j2) (x := (a : Int)) (y := (j2 : Int)) (by omega) (by omega) rfl rfl HLV.out
              go_wp2_with (go_at_fn g; refine hl.mono ?_; rintro e w1 ⟨rfl, hb1⟩)
              go_roundw
              case rel => exact ⟨j2 - 1, by congr 1; omega, by omega, by omega, (scanDown_go (fun x => lt dk[a]! x) dk i2 j2 hle (by omega) (by simp [HLV.out])).symm.trans HE.out, hr2.below hb1, hx2.below hb1, hf2.trans (Foot.ofBelow hb1 _)⟩
              case measure => simp [intOf]; omega
          · go_wp2_with fail
            go_meet
            exact ⟨j2, rfl, (HE.out.symm.trans (scanDown_end (fun x => lt dk[a]! x) dk i2 j2 (.inl hle))).symm, h1, h2, fun h => absurd h hle, hr2, hx2, hf2⟩
      case rest =>
        clear hr hx hf
        obtain ⟨j2, rfl, hsd, hj1, hj2, hst2, hr, hx, hf⟩ := hcut
        have HSD := Lib.hid hsd
        clear hsd
        have c1 := hx.c1
        by_cases hgt : j2 < i2
        · have e := partEq_break lt a i j dk HSU.out HSD.out hgt
          have HEQ : Hid (partitionEqual lt d a (j0 + 1) pivot = (i2, dk)) := Lib.hid (by unfold partitionEqual; rw [← HD.out]; exact HE0.out.symm.trans e)
          clear e
          go_wp2_with fail
          go_ret
          rw [HEQ.out]
          exact ⟨rfl, hr, hf⟩
        · have hlt3 : i2 < j2 := by
            rcases Nat.lt_or_ge i2 j2 with h | h
            · exact h
            · exfalso
              have e : i2 = j2 := by omega
              have h1 := hst (by omega)
              have h2 := hst2 (by omega)
              rw [e, h2] at h1
              cases h1
          have e := partEq_go lt a i j dk HSU.out HSD.out (by omega)
          have HEQ : Hid (partEqLoop lt a (i2 + 1) (j2 - 1) (swp dk i2 j2) = partEqLoop lt a (a + 1) j0 D) := Lib.hid (e.symm.trans HE0.out)
          clear e hst hst2
          have hs := L.sw hr (i := i2) (j := j2) (x := (i2 : Int)) (y := (j2 : Int)) (by omega) (by omega) rfl rfl
          have hfs := foot_swapW (blk := blk) (off := off) wc dk i2 j2
          have hr3 := hr.swap i2 j2 (by omega) (by omega)
          have hx3 := hx.foot hfs hne
          have hf3 := hf.trans hfs
          generalize swapW wc blk off dk i2 j2 = W3 at hs hr3 hx3 hf3
          clear hfs hr hx hf
          go_wp2_with fail
          go_roundw
          case rel => exact ⟨i2 + 1, j2 - 1, swp dk i2 j2, by go_num, by congr 1; omega, by omega, by omega, by omega, HEQ.out, hr3, hx3, hf3⟩
          case measure => simp [intOf]; omega
end
end Go.Proofs.Ytmddnilephneiaa.SortPartE
