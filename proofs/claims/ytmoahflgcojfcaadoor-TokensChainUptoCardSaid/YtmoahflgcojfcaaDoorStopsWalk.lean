/-
  The walks of tokens.Stops and tokens.IsStop.
-/
import Derived.Test.YtmoahflgcojfcaaDoorBase
import Derived.Test.YtmoahflgcojfcaaDoorShelfLay
import Derived.Test.YtmoahflgcojfcaaDoorStopsPlain
import Derived.Shelf.Strings.Fields
import Derived.Shelf.Sort.Plain
import Derived.Shelf.Slices.Turned
import Derived.Sort.OwnSorted
import Derived.WalkSmall
namespace Go.Proofs.YtmoahflgcojfcaaDoor.StopsWalk
open Go.RowKit Go.PlainAid Go.Sort Base StopsPlain ShelfLay

/-- The table that strings.Fields reads, as it was laid. -/
def Tab (w : World) : Prop := Lib.TabIs Tryd.prog w "strings.asciiSpace" .u8 Lib.asciiSpaceTab

theorem stop_size : (⟨stopText.toArray⟩ : ByteArray).size < 4294967281 := by
  exact Nat.lt_of_le_of_lt (show stopText.length ≤ 1000 from of_decide_eq_true (by kernel_rfl)) (by decide)

theorem fields_stop (w : World) (ht : Tab w) :
    Calls Tryd.prog 24 #[.string ⟨stopText.toArray⟩] w fun e w' => e = .returned (.slice (some ⟨w.heap.size, 0, none⟩) stopWords.length stopWords.length) ∧ w' = w.alloc (.cells (stopWords.map encStr).toArray 9) := by
  have h := Any.strings_Fields lays157 (by kernel_rfl) (by kernel_rfl) ⟨stopText.toArray⟩ w stop_size (fun j b hb => by
    have := List.all_eq_true.1 stop_ascii b (List.mem_of_getElem? hb)
    simpa using this) ht
  rw [show (⟨stopText.toArray⟩ : ByteArray).data.toList = stopText from rfl, stop_fields] at h
  exact h

theorem sort_stop (w : World) (g cap : Nat) (hg : w.heap[g]? = some (.cells (stopWords.map encStr).toArray 9 (0, 0))) (base : Nat) (hb : base ≤ g) :
    Calls Tryd.prog 25 #[.slice (some ⟨g, 0, none⟩) stopWords.length stopWords.length] w fun e w' => e = .returned (.tuple #[]) ∧
      w'.ownsRow base 9 1 (.slice (some ⟨g, 0, none⟩) stopWords.length stopWords.length) stopWords.length (stopWords.map encStr) ∧ w.grownBy w' (some g) := by
  have hlt : g < w.heap.size := (Array.getElem?_eq_some_iff.1 hg).1
  have h := Any.slices_Sort_string lays190 g 0 stopWords.length stopWords w (holds_of_block hg (by rw [List.toList_toArray]; exact List.take_of_length_le (by simp))) hlt (by rw [stop_len]; decide)
  rw [stop_sorted] at h
  refine h.mono ?_
  rintro e w' ⟨rfl, n, os, rfl⟩
  exact ⟨rfl, ownsRow_sorted rfl hb hg (Nat.le_refl _) (by rw [stop_len]; decide) (by simp), grownBy_sorted _⟩

/-- The stop words, new in memory. -/
def StopsMade (w : World) (e : Ending) (w' : World) : Prop :=
  ∃ g, e = .returned (.slice (some ⟨g, 0, none⟩) stopWords.length stopWords.length) ∧ w'.ownsRow w.heap.size 9 1 (.slice (some ⟨g, 0, none⟩) stopWords.length stopWords.length) stopWords.length (stopWords.map encStr) ∧ Below w.heap.size w w'

theorem tab_below {w w' : World} {B : Nat} (h : Tab w) (hb : Below B w w') (hB : 0 < B) : Tab w' :=
  var?_below hb (g := 0) (by kernel_rfl) hB h

set_option maxHeartbeats 2000000 in
theorem stops_any (w : World) (ht : Tab w) : Calls Tryd.prog 9 #[] w (StopsMade w) := by
  have F := Lib.hid (fields_stop w ht)
  have hS := sort_stop (w.alloc (.cells (stopWords.map encStr).toArray 9)) w.heap.size 0 (heap_alloc_new w _) w.heap.size (Nat.le_refl _)
  have HS := Lib.hid hS
  obtain ⟨n, hn⟩ : ∃ n, n = stopWords.length := ⟨_, rfl⟩
  have HN := Lib.hid hn
  clear hS hn
  go_enter Tryd.func9, Tryd.ntmps9
  go_wp2_with fail
  go_at_call 24
  refine F.out.mono ?_
  rintro e w1 ⟨rfl, hw1⟩
  subst hw1
  go_wp2_with fail
  go_at_call 25
  refine HS.out.mono ?_
  rintro e w2 ⟨rfl, hown, hgr⟩
  go_wp2_with fail
  go_ret
  refine ⟨w.heap.size, rfl, hown, ?_⟩
  exact ⟨hgr.os, hgr.tape, hgr.output, by have := hgr.size; simp at this; omega, fun k hk => (hgr.block k (by simp; omega) (by simp; omega)).trans (Below.heap_alloc w _ k hk)⟩

/-- The stop words as strings. -/
def stopStrs : List ByteArray := stopWords.map fun l => ⟨l.toArray⟩
/-- Is it a stop word? -/
def isStopB (x : ByteArray) : Bool := Lib.containsS stopStrs x
theorem isStopB_iff (x : ByteArray) : isStopB x = true ↔ x ∈ stopStrs := Lib.containsS_iff _ _
theorem stopStrs_len : stopStrs.length = stopWords.length := by simp [stopStrs]
theorem stop_cell {w : World} {base g : Nat} (h : w.ownsRow base 9 1 (.slice (some ⟨g, 0, none⟩) stopWords.length stopWords.length) stopWords.length (stopWords.map encStr)) (j : Nat) (hj : j < stopStrs.length) :
    w.cell? ⟨g, 0 + j, none⟩ = some (.string (stopStrs.getD j ByteArray.empty)) := by
  rw [stopStrs_len] at hj
  rw [Nat.zero_add, h.cellAt j (by simpa using hj)]
  simp [stopStrs, hj, encStr]

theorem contains_stop {w : World} {base g : Nat} (x : ByteArray) (h : w.ownsRow base 9 1 (.slice (some ⟨g, 0, none⟩) stopWords.length stopWords.length) stopWords.length (stopWords.map encStr)) :
    Calls Tryd.prog 26 #[.slice (some ⟨g, 0, none⟩) stopWords.length stopWords.length, .string x] w fun e w' => e = .returned (.bool (isStopB x)) ∧ w' = w := by
  have h1 := Any.slices_Contains_string lays110 g 0 stopWords.length stopWords.length stopStrs x w (by rw [stopStrs_len]; exact Nat.le_refl _) (by rw [stop_len]; decide) (fun j hj => stop_cell h j hj)
  rw [← stopStrs_len, List.take_length] at h1
  rw [← stopStrs_len]
  exact h1

set_option maxHeartbeats 2000000 in
theorem isStop_any (x : ByteArray) (w : World) (ht : Tab w) : Calls Tryd.prog 11 #[.string x] w fun e w' => e = .returned (.bool (isStopB x)) ∧ Below w.heap.size w w' := by
  have F := Lib.hid (stops_any w ht)
  obtain ⟨n, hn⟩ : ∃ n, n = stopWords.length := ⟨_, rfl⟩
  go_enter Tryd.func11, Tryd.ntmps11
  go_wp2_with fail
  go_at_call 9
  refine F.out.mono ?_
  rintro e w1 ⟨g, rfl, hown, hb⟩
  have C := Lib.hid (contains_stop x hown)
  clear hown hn
  go_wp2_with fail
  go_at_call 26
  refine C.out.mono ?_
  rintro e w2 ⟨rfl, rfl⟩
  go_wp2_with fail
  go_ret
  exact ⟨rfl, hb⟩

set_option maxHeartbeats 2000000 in
theorem refStops_any (w : World) : Calls Tryd.prog 10 #[] w (StopsMade w) := by
  have hrow : (w.alloc (.cells (stopWords.map encStr).toArray 9)).ownsRow w.heap.size 9 1 (.slice (some ⟨w.heap.size, 0, none⟩) stopWords.length stopWords.length) stopWords.length (stopWords.map encStr) := by
    have := World.ownsRow_lit (e := 9) (size := 1) (base := w.heap.size) w (stopWords.map encStr).toArray stopWords.length (Nat.le_refl _) (by rw [stop_len]; decide) (by simp)
    simpa using this
  have HR := Lib.hid hrow
  clear hrow
  go_enter Tryd.func10, Tryd.ntmps10
  go_wp2_with fail
  go_ret
  exact ⟨w.heap.size, rfl, HR.out, by (repeat (first | exact Below.refl _ _ | assumption | refine balloc ?_ _ | refine bdrew ?_ | refine bdrewN ?_ _ | refine bchain ?_ (by assumption)))⟩
end Go.Proofs.YtmoahflgcojfcaaDoor.StopsWalk
