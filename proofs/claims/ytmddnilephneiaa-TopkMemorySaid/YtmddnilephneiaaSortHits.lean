/-
  sort.Slice over a row of hits by Better: the row ends sorted, all else stays.
-/
import Derived.Test.YtmddnilephneiaaSortPdq
import Derived.Shelf.GgSortFunc.Tiny
namespace Go.Proofs.Ytmddnilephneiaa.SortHits
open Go.Shelf Go.RowKit Go.Lib Go.Sort Go.PlainAid HitPlain Base HitBase SortBase SortLay SortPdq

theorem swo_btr : SWO btr where
  irrefl := btr_irr
  trans := fun _ _ _ h k => btr_trans h k
  ntrans := fun _ _ _ h k => nb_trans k h

noncomputable def hT : TypeInfo := (Try.prog.info? 26).get (by kernel_rfl)
noncomputable def hE : TypeInfo := (Try.prog.info? 29).get (by kernel_rfl)
theorem hK (n : Nat) (h2 : 2 ≤ n) : swapperK n hE 25 = 9 := by
  have a : hE.hasPointers = false := by kernel_rfl
  have b : hE.bytes = 16 := by kernel_rfl
  have c : (n == 0) = false := by simp; omega
  have d : (n == 1) = false := by simp; omega
  simp [swapperK, a, b, c, d]

theorem hold0 {W : World} {blk : Nat} {dk : Array Hit} (h : HoldsK hitC 2 W blk 0 dk) {i : Nat} (hi : i < dk.size) : W.cell? ⟨blk, i * 2, none⟩ = some (.int .i64 dk[i]!.1) := by
  have := (h.cell (i := i) (c := 0) hi (by omega)).1
  simpa [hitC] using this
theorem hold1 {W : World} {blk : Nat} {dk : Array Hit} (h : HoldsK hitC 2 W blk 0 dk) {i : Nat} (hi : i < dk.size) : W.cell? ⟨blk, i * 2 + 1, none⟩ = some (.int .u64 dk[i]!.2) := by
  have := (h.cell (i := i) (c := 1) hi (by omega)).1
  simpa [hitC] using this

set_option maxRecDepth 100000 in
set_option maxHeartbeats 2000000 in
/-- The caller's own closure. -/
theorem less_row (blk n c Bs : Nat) (W : World) (dk : Array Hit) (hs : W.cell? ⟨Bs, 0, none⟩ = some (.slice (some ⟨blk, 0, none⟩) n c)) (hd : dk.size = n) (hH : HoldsK hitC 2 W blk 0 dk) (i j : Nat) (hi : i < n) (hj : j < n) :
    Calls Try.prog 31 #[.int .i64 i, .int .i64 j, .pointer (some ⟨Bs, 0, none⟩)] W fun e w' => e = .returned (.bool (btr dk[i]! dk[j]!)) ∧ Go.RowKit.Below W.heap.size W w' := by
  have x0 := hold0 hH (i := i) (by omega)
  have x1 := hold1 hH (i := i) (by omega)
  have y0 := hold0 hH (i := j) (by omega)
  have y1 := hold1 hH (i := j) (by omega)
  have i1 : (0 : Int) ≤ (i : Int) := by omega
  have i2 : (i : Int) < (n : Int) := by omega
  have j1 : (0 : Int) ≤ (j : Int) := by omega
  have j2 : (j : Int) < (n : Int) := by omega
  generalize dk[i]! = x at x0 x1 ⊢
  generalize dk[j]! = y at y0 y1 ⊢
  obtain ⟨xa, xb⟩ := x
  obtain ⟨ya, yb⟩ := y
  clear hH hd
  go_enter Try.func31, Try.ntmps31
  go_wp2_with fail
  go_still_tail 8, (by kernel_rfl)
  go_wp2_with (go_at_call 25; refine (better_any _ _ _ _ _).mono ?_; rintro e w1 ⟨rfl, hb1⟩)
  go_ret
  exact ⟨rfl, bchain (bdrew (Below.refl _ _)) hb1⟩

theorem sorted_eq {d d' : Array Hit} (hp : PermIn 0 d.size d d') (hs : SortedIn btr 0 d.size d') : d'.toList = srt d.toList := by
  have hsz := hp.1
  refine srt_eq ?_ ?_
  · refine List.pairwise_iff_getElem.2 fun i j hi hj hij => ?_
    have hi' : i < d'.size := by simpa using hi
    have hj' : j < d'.size := by simpa using hj
    have := hs i j (Nat.zero_le _) hij (by omega)
    rw [getElem!_pos d' j hj', getElem!_pos d' i hi'] at this
    simpa using this
  · have h := hp.2.2
    have e1 : d'.extract 0 d.size = d' := by rw [← hsz]; exact Array.extract_size
    have e2 : d.extract 0 d.size = d := Array.extract_size
    rwa [e1, e2] at h

theorem fn_tiny (m : Nat) (h : m ≤ 1) : Try.prog.funcs.findIdx? (·.name == "internal/reflectlite" ++ ".Swapper$" ++ toString (m + 1)) = some (42 + m) := by
  rcases Nat.eq_zero_or_pos m with h0 | h0
  · subst h0; kernel_rfl
  · obtain rfl : m = 1 := by omega
    kernel_rfl

set_option maxRecDepth 100000 in
theorem slice_any (blk c Bs : Nat) (d : Array Hit) (w : World) (hH : HoldsK hitC 2 w blk 0 d) (hblk : blk < w.heap.size) (hsz : d.size < 4611686018427387904)
    (hs : w.cell? ⟨Bs, 0, none⟩ = some (.slice (some ⟨blk, 0, none⟩) d.size c)) (hBs : Bs < w.heap.size) (hne : Bs ≠ blk) :
    Calls Try.prog 30 #[.iface 26 (.slice (some ⟨blk, 0, none⟩) d.size c), .func (.func 31) #[] #[.pointer (some ⟨Bs, 0, none⟩)]] w fun e w' =>
      e = .returned (.tuple #[]) ∧ Rw w blk 0 d.size w' (srt d.toList).toArray := by
  by_cases h2 : 2 ≤ d.size
  · have hbw : Go.RowKit.Below w.heap.size w (sliceWorld Try.prog ren 26 (some ⟨blk, 0, none⟩) d.size c w) := by
      unfold sliceWorld
      exact ((Below.refl _ _).alloc (Nat.le_refl _) _).alloc (by simp) _
    have hr0 : Rw w blk 0 d.size (sliceWorld Try.prog ren 26 (some ⟨blk, 0, none⟩) d.size c w) d := (Rw.start hH hblk).below hbw
    have hL : Ls w blk 0 d.size 31 #[.pointer (some ⟨Bs, 0, none⟩)] 50 #[.slice (some ⟨blk, 0, none⟩) d.size c, typeHandle Try.prog 29] btr := {
      enter := enters_of Try.func31 (by kernel_rfl) rfl,
      less := fun W dk hR i j hi hj => by
        have h1 : W.cell? ⟨Bs, 0, none⟩ = some (.slice (some ⟨blk, 0, none⟩) d.size c) := (hR.foot.cell (p := ⟨Bs, 0, none⟩) hBs hne).trans hs
        exact less_row blk d.size c Bs W dk h1 hR.size hR.holds i j hi hj,
      swap := swapSwapsK_of_literal (P := Try.prog) false 50 (fun args W => run_callFunc_extern Try.func50 (by kernel_rfl) (by kernel_rfl) (by kernel_rfl) (e := Extern.ReflectliteSwapper.swap false) (by kernel_rfl) args W)
        29 hE (by kernel_rfl) hitC 2 (fun _ => rfl) (by kernel_rfl) (fun _ => by kernel_rfl) (fun x v hv => by simp [hitC] at hv; rcases hv with rfl | rfl <;> rfl) blk 0 d.size c,
      big := hsz }
    have hlim : Lib.bitLen d.size < 4611686018427387904 := Nat.lt_of_le_of_lt (Lib.bitLen_le d.size 62 (by omega) (by omega)) (by omega)
    have hp := pdq_any swo_btr hL (d.size + 1) 0 d.size (Lib.bitLen d.size) d _ (by omega) hr0 (Nat.zero_le _) (Nat.le_refl _) hlim (Or.inl rfl)
    refine Any.sort_Slice_of_pdq (P := Try.prog) (ρ := ren) lays 26 29 hT hE (by kernel_rfl) (by kernel_rfl) (by kernel_rfl) (by kernel_rfl) 25 (fun _ => by kernel_rfl) (some ⟨blk, 0, none⟩) d.size c hsz 50 (by rw [hK _ h2]; kernel_rfl) (.func 31) #[] #[.pointer (some ⟨Bs, 0, none⟩)] w (fun w' => Rw w blk 0 d.size w' (srt d.toList).toArray) ?_
    have hB : sliceBound Try.prog 29 hE 25 (some ⟨blk, 0, none⟩) d.size c = #[.slice (some ⟨blk, 0, none⟩) d.size c, typeHandle Try.prog 29] := by
      unfold sliceBound; rw [hK _ h2]; rfl
    rw [hB]
    refine hp.mono ?_
    rintro e w' ⟨rfl, hl, _⟩
    refine ⟨rfl, ?_⟩
    obtain ⟨q1, q2⟩ := pdq_sorts btr swo_btr d 0 d.size (Lib.bitLen d.size) true true (Nat.zero_le _) (Nat.le_refl _) (Or.inl rfl)
    rw [← sorted_eq q1 q2]
    exact hl
  · have hK1 : swapperK d.size hE 25 = d.size + 1 := by
      rcases Nat.eq_zero_or_pos d.size with h | h
      · rw [h]; simp [swapperK]
      · have : d.size = 1 := by omega
        rw [this]; simp [swapperK]
    have hS := Any.sort_Slice_tiny (P := Try.prog) (ρ := ren) lays 26 29 hT hE (by kernel_rfl) (by kernel_rfl) (by kernel_rfl) (by kernel_rfl) 25 (fun _ => by kernel_rfl) (some ⟨blk, 0, none⟩) d.size c (by omega) (42 + d.size) (by rw [hK1]; exact fn_tiny d.size (by omega)) (.func 31) #[] #[.pointer (some ⟨Bs, 0, none⟩)] w
    refine hS.mono ?_
    rintro e w' ⟨rfl, os, rfl⟩
    have e : (srt d.toList).toArray = d := by
      have : srt d.toList = d.toList := by
        have hl : d.toList.length ≤ 1 := by rw [Array.length_toList]; omega
        generalize d.toList = l at hl
        match l, hl with
        | [], _ => rfl
        | [x], _ => rfl
        | x :: y :: r, hl => simp at hl
      rw [this]
    rw [e]
    have hb : Go.RowKit.Below w.heap.size w (Sort.grow w os) := ⟨rfl, rfl, rfl, by rw [size_grow]; omega, fun k hk => by
      show (w.heap ++ os)[k]? = _
      rw [Array.getElem?_append_left hk]⟩
    exact ⟨rfl, (Rw.start hH hblk).below hb⟩
end Go.Proofs.Ytmddnilephneiaa.SortHits
