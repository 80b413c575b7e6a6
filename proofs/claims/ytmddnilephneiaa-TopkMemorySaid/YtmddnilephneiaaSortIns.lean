/-
  The walks of sort.insertionSort_func, siftDown_func, heapSort_func where 'less' may make memory.
-/
import Derived.Test.YtmddnilephneiaaSortBase
namespace Go.Proofs.Ytmddnilephneiaa.SortIns
open Go.Shelf Go.RowKit Go.Lib Go.Sort Go.PlainAid HitPlain Base HitBase SortBase

section
variable {w0 : World} {blk off n g sf : Nat} {lb sb : Array Value} {lt : Hit → Hit → Bool}

set_option maxHeartbeats 2000000 in
theorem insertion_any (L : Ls w0 blk off n g lb sf sb lt) (W : World) (d : Array Hit) (hR : Rw w0 blk off n W d) (a b : Nat) (hab : a ≤ b) (hb : b ≤ n) :
    Calls Try.prog 53 #[.agg #[.func (.func g) #[] lb, .func (.func sf) #[] sb], .int .i64 a, .int .i64 b] W fun e w' => e = .returned (.tuple #[]) ∧ SortLeaves w0 blk off n W (insertionSort lt d a b) w' := by
  have hne : W.heap.size ≠ blk := by have := hR.ltW; omega
  have hbig := L.big
  have eg := L.enter
  go_enter Try.func53, Try.ntmps53
  go_wp2
  go_loopw [6] (fun vi wr => ∃ (i : Nat) (dk : Array Hit), vi = .int .i64 i ∧ a < i ∧ i ≤ b + 1 ∧ insOuter lt a b i dk = insOuter lt a b (a + 1) d ∧ Rw w0 blk off n wr dk ∧ Bx wr W.heap.size g lb sf sb ∧ Foot W wr (fun g => g ≠ blk)) (fun vi _ => b + 1 - (intOf vi).toNat)
  case atStart => exact ⟨a + 1, d, by go_num, by omega, by omega, rfl, hR.alloc _, Bx.new _ _ _ _ _, (Foot.refl _ _).alloc _⟩
  case round =>
    obtain ⟨i, dk, rfl, hai, hib, hO, hr, hx, hf⟩ := hrel
    have HO := Lib.hid hO
    clear hO
    by_cases hlt : i < b
    · go_wp2
      go_loopw [7] (fun vj wr2 => ∃ (j : Nat) (dj : Array Hit), vj = .int .i64 j ∧ a ≤ j ∧ j ≤ i ∧ insInner lt a j dj = insInner lt a i dk ∧ Rw w0 blk off n wr2 dj ∧ Bx wr2 W.heap.size g lb sf sb ∧ Foot W wr2 (fun g => g ≠ blk)) (fun vj _ => (intOf vj).toNat)
      case atStart => exact ⟨i, dk, rfl, by omega, Nat.le_refl _, rfl, hr, hx, hf⟩
      case round =>
        obtain ⟨j, dj, rfl, haj, hji, hI, hr2, hx2, hf2⟩ := hrel
        have HI := Lib.hid hI
        clear hI hr hx hf hR
        have c0 := hx2.c0
        have c1 := hx2.c1
        have out : (j ≤ a ∨ lt dj[j]! dj[j - 1]! = false) → insOuter lt a b (i + 1) dj = insOuter lt a b (a + 1) d := fun hs => by
          rw [← HO.out, insOuter_go _ _ _ _ _ hlt, ← HI.out, insInner_stop _ _ _ _ hs]
        have OUT := Lib.hid out
        clear out
        by_cases hja : a < j
        · cases hlv : lt dj[j]! dj[j - 1]!
          · have HLV := Lib.hid hlv
            have hl := L.at_ hr2 (i := j) (j := j - 1) (x := (j : Int)) (y := (j : Int) - 1) (by omega) (by omega) rfl (by omega) HLV.out
            clear hlv
            go_wp2_with (go_at_fn g; refine hl.mono ?_; rintro e w1 ⟨rfl, hb1⟩)
            go_roundw
            case rel => exact ⟨i + 1, dj, by go_num, by omega, by omega, OUT.out (.inr HLV.out), hr2.below hb1, hx2.below hb1, hf2.trans (Foot.ofBelow hb1 _)⟩
            case measure => simp [intOf]; omega
          · have HLV := Lib.hid hlv
            have hl := L.at_ hr2 (i := j) (j := j - 1) (x := (j : Int)) (y := (j : Int) - 1) (by omega) (by omega) rfl (by omega) HLV.out
            clear hlv
            go_wp2_with (go_at_fn g; refine hl.mono ?_; rintro e w1 ⟨rfl, hb1⟩; have c3 := (hx2.below hb1).c1)
            have hr3 := hr2.below hb1
            rw [L.sw hr3 (i := j) (j := j - 1) (x := (j : Int)) (y := (j : Int) - 1) (by omega) (by omega) rfl (by omega), Oper.upon_value]
            go_wp2
            go_roundw
            case rel =>
              have hfs := foot_swapW (blk := blk) (off := off) w1 dj j (j - 1)
              exact ⟨j - 1, swp dj j (j - 1), by congr 1; omega, by omega, by omega, by rw [← HI.out, insInner_go lt a j dj hja HLV.out], hr3.swap j (j - 1) (by omega) (by omega), (hx2.below hb1).foot hfs hne, (hf2.trans (Foot.ofBelow hb1 _)).trans hfs⟩
            case measure => simp [intOf]; omega
        · go_wp2
          go_roundw
          case rel => exact ⟨i + 1, dj, by go_num, by omega, by omega, OUT.out (.inl (by omega)), hr2, hx2, hf2⟩
          case measure => simp [intOf]; omega
    · go_wp2
      go_end0
      exact ⟨rfl, by unfold insertionSort; rw [← HO.out, insOuter_stop _ _ _ _ _ hlt]; exact hr, hf⟩
end
end Go.Proofs.Ytmddnilephneiaa.SortIns
