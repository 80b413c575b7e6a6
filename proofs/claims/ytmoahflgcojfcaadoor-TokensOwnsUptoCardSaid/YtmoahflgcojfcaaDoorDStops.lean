/-
  strings.Fields, slices.Sort and slices.Contains over strings, and all that they reach, as this program bears them.
  The stop words, as lists of bytes: they are the words of the one text, and they rise.
  The walks of tokens.Stops and tokens.IsStop.
-/
import Derived.Test.YtmoahflgcojfcaaDoorChecked
import Derived.Shelf.Lays
import Derived.Lib.Fields
import Derived.KernelRfl
import Derived.Sort.EncStr
import Derived.Test.YtmoahflgcojfcaaDoorBase
import Derived.Shelf.Strings.Fields
import Derived.Shelf.Sort.Plain
import Derived.Shelf.Slices.Turned
import Derived.Sort.OwnSorted
import Derived.WalkSmall
namespace Go.Proofs.YtmoahflgcojfcaaDoor.ShelfLay
open Go.Shelf
set_option maxRecDepth 100000

def ren157 : Go.Shelf.Ren := ⟨fun | 157 => 24 | 229 => 47 | 199 => 48 | 261 => 67 | 311 => 89 | 312 => 90 | n => n, fun | 9 => 9 | 31 => 22 | 3 => 3 | 5 => 5 | 4 => 4 | 119 => 68 | 0 => 0 | 40 => 70 | 152 => 91 | 21 => 21 | 154 => 93 | 51 => 94 | 141 => 96 | 196 => 112 | 193 => 109 | 198 => 115 | 49 => 113 | 194 => 110 | 201 => 118 | 226 => 132 | 46 => 73 | 227 => 133 | n => n, fun | 0 => 0 | 6 => 1 | n => n⟩
theorem lays157 : Lays.n157 Tryd.prog ren157 := {
  mixed := by kernel_rfl,
  f157 := Tryd.func24.trans (congrArg some (by kernel_rfl)),
  f199 := Tryd.func48.trans (congrArg some (by kernel_rfl)),
  f229 := Tryd.func47.trans (congrArg some (by kernel_rfl)),
  f261 := Tryd.func67.trans (congrArg some (by kernel_rfl)),
  f311 := Tryd.func89.trans (congrArg some (by kernel_rfl)),
  f312 := Tryd.func90.trans (congrArg some (by kernel_rfl)),
  t0 := Tryd.underlying0,
  a0 := Tryd.isAgg0,
  z0 := Tryd.sizeOf0,
  v0 := Tryd.zeroValue0,
  t3 := Tryd.underlying3,
  a3 := Tryd.isAgg3,
  z3 := Tryd.sizeOf3,
  v3 := Tryd.zeroValue3,
  t4 := Tryd.underlying4,
  a4 := Tryd.isAgg4,
  z4 := Tryd.sizeOf4,
  v4 := Tryd.zeroValue4,
  t5 := Tryd.underlying5,
  a5 := Tryd.isAgg5,
  z5 := Tryd.sizeOf5,
  v5 := Tryd.zeroValue5,
  t9 := Tryd.underlying9,
  a9 := Tryd.isAgg9,
  z9 := Tryd.sizeOf9,
  v9 := Tryd.zeroValue9,
  t21 := Tryd.underlying21,
  a21 := Tryd.isAgg21,
  z21 := Tryd.sizeOf21,
  v21 := Tryd.zeroValue21,
  t31 := Tryd.underlying22,
  a31 := Tryd.isAgg22,
  z31 := Tryd.sizeOf22,
  v31 := Tryd.zeroValue22,
  t40 := Tryd.underlying70,
  a40 := Tryd.isAgg70,
  z40 := Tryd.sizeOf70,
  v40 := Tryd.zeroValue70,
  t46 := Tryd.underlying73,
  a46 := Tryd.isAgg73,
  z46 := Tryd.sizeOf73,
  v46 := Tryd.zeroValue73,
  t49 := Tryd.underlying113,
  a49 := Tryd.isAgg113,
  z49 := Tryd.sizeOf113,
  v49 := Tryd.zeroValue113,
  t51 := Tryd.underlying94,
  a51 := Tryd.isAgg94,
  z51 := Tryd.sizeOf94,
  v51 := Tryd.zeroValue94,
  t119 := Tryd.underlying68,
  a119 := Tryd.isAgg68,
  z119 := Tryd.sizeOf68,
  t141 := Tryd.underlying96,
  a141 := Tryd.isAgg96,
  z141 := Tryd.sizeOf96,
  v141 := Tryd.zeroValue96,
  t152 := Tryd.underlying91,
  a152 := Tryd.isAgg91,
  z152 := Tryd.sizeOf91,
  v152 := Tryd.zeroValue91,
  t154 := Tryd.underlying93,
  a154 := Tryd.isAgg93,
  z154 := Tryd.sizeOf93,
  v154 := Tryd.zeroValue93,
  t193 := Tryd.underlying109,
  a193 := Tryd.isAgg109,
  z193 := Tryd.sizeOf109,
  v193 := Tryd.zeroValue109,
  t194 := Tryd.underlying110,
  a194 := Tryd.isAgg110,
  z194 := Tryd.sizeOf110,
  v194 := Tryd.zeroValue110,
  t196 := Tryd.underlying112,
  a196 := Tryd.isAgg112,
  z196 := Tryd.sizeOf112,
  v196 := Tryd.zeroValue112,
  t198 := Tryd.underlying115,
  a198 := Tryd.isAgg115,
  z198 := Tryd.sizeOf115,
  v198 := Tryd.zeroValue115,
  t201 := Tryd.underlying118,
  a201 := Tryd.isAgg118,
  z201 := Tryd.sizeOf118,
  v201 := Tryd.zeroValue118,
  t226 := Tryd.underlying132,
  a226 := Tryd.isAgg132,
  z226 := Tryd.sizeOf132,
  v226 := Tryd.zeroValue132,
  t227 := Tryd.underlying133,
  a227 := Tryd.isAgg133,
  z227 := Tryd.sizeOf133,
  v227 := Tryd.zeroValue133,
  g0 := by kernel_rfl,
  g6 := by kernel_rfl }

def ren190 : Go.Shelf.Ren := ⟨fun | 190 => 25 | 125 => 50 | 258 => 49 | 128 => 77 | 129 => 78 | 302 => 68 | 303 => 69 | 304 => 70 | 305 => 71 | 306 => 72 | 307 => 73 | 308 => 74 | 309 => 75 | 310 => 76 | 333 => 91 | 329 => 92 | 330 => 93 | 334 => 94 | 335 => 95 | 336 => 96 | 344 => 105 | n => n, fun | 31 => 22 | 9 => 9 | 3 => 3 | 46 => 73 | 0 => 0 | 51 => 94 | 53 => 84 | 4 => 4 | 183 => 99 | 182 => 98 | 131 => 103 | 5 => 5 | 218 => 120 | 222 => 124 | 228 => 134 | 229 => 135 | n => n, fun n => n⟩
theorem lays190 : Lays.n190 Tryd.prog ren190 := {
  mixed := by kernel_rfl,
  f125 := Tryd.func50.trans (congrArg some (by kernel_rfl)),
  f128 := Tryd.func77.trans (congrArg some (by kernel_rfl)),
  f129 := Tryd.func78.trans (congrArg some (by kernel_rfl)),
  f190 := Tryd.func25.trans (congrArg some (by kernel_rfl)),
  f258 := Tryd.func49.trans (congrArg some (by kernel_rfl)),
  f302 := Tryd.func68.trans (congrArg some (by kernel_rfl)),
  f303 := Tryd.func69.trans (congrArg some (by kernel_rfl)),
  f304 := Tryd.func70.trans (congrArg some (by kernel_rfl)),
  f305 := Tryd.func71.trans (congrArg some (by kernel_rfl)),
  f306 := Tryd.func72.trans (congrArg some (by kernel_rfl)),
  f307 := Tryd.func73.trans (congrArg some (by kernel_rfl)),
  f308 := Tryd.func74.trans (congrArg some (by kernel_rfl)),
  f309 := Tryd.func75.trans (congrArg some (by kernel_rfl)),
  f310 := Tryd.func76.trans (congrArg some (by kernel_rfl)),
  f329 := Tryd.func92.trans (congrArg some (by kernel_rfl)),
  f330 := Tryd.func93.trans (congrArg some (by kernel_rfl)),
  f333 := Tryd.func91.trans (congrArg some (by kernel_rfl)),
  f334 := Tryd.func94.trans (congrArg some (by kernel_rfl)),
  f335 := Tryd.func95.trans (congrArg some (by kernel_rfl)),
  f336 := Tryd.func96.trans (congrArg some (by kernel_rfl)),
  f344 := Tryd.func105.trans (congrArg some (by kernel_rfl)),
  t0 := Tryd.underlying0,
  a0 := Tryd.isAgg0,
  z0 := Tryd.sizeOf0,
  v0 := Tryd.zeroValue0,
  t3 := Tryd.underlying3,
  a3 := Tryd.isAgg3,
  z3 := Tryd.sizeOf3,
  v3 := Tryd.zeroValue3,
  t4 := Tryd.underlying4,
  a4 := Tryd.isAgg4,
  z4 := Tryd.sizeOf4,
  v4 := Tryd.zeroValue4,
  t5 := Tryd.underlying5,
  a5 := Tryd.isAgg5,
  z5 := Tryd.sizeOf5,
  v5 := Tryd.zeroValue5,
  t9 := Tryd.underlying9,
  a9 := Tryd.isAgg9,
  z9 := Tryd.sizeOf9,
  v9 := Tryd.zeroValue9,
  t31 := Tryd.underlying22,
  a31 := Tryd.isAgg22,
  z31 := Tryd.sizeOf22,
  v31 := Tryd.zeroValue22,
  t46 := Tryd.underlying73,
  a46 := Tryd.isAgg73,
  z46 := Tryd.sizeOf73,
  v46 := Tryd.zeroValue73,
  t51 := Tryd.underlying94,
  a51 := Tryd.isAgg94,
  z51 := Tryd.sizeOf94,
  v51 := Tryd.zeroValue94,
  t53 := Tryd.underlying84,
  a53 := Tryd.isAgg84,
  z53 := Tryd.sizeOf84,
  v53 := Tryd.zeroValue84,
  t131 := Tryd.underlying103,
  a131 := Tryd.isAgg103,
  z131 := Tryd.sizeOf103,
  v131 := Tryd.zeroValue103,
  t182 := Tryd.underlying98,
  a182 := Tryd.isAgg98,
  z182 := Tryd.sizeOf98,
  v182 := Tryd.zeroValue98,
  t183 := Tryd.underlying99,
  a183 := Tryd.isAgg99,
  z183 := Tryd.sizeOf99,
  v183 := Tryd.zeroValue99,
  t218 := Tryd.underlying120,
  a218 := Tryd.isAgg120,
  z218 := Tryd.sizeOf120,
  v218 := Tryd.zeroValue120,
  t222 := Tryd.underlying124,
  a222 := Tryd.isAgg124,
  z222 := Tryd.sizeOf124,
  v222 := Tryd.zeroValue124,
  t228 := Tryd.underlying134,
  a228 := Tryd.isAgg134,
  z228 := Tryd.sizeOf134,
  v228 := Tryd.zeroValue134,
  t229 := Tryd.underlying135,
  a229 := Tryd.isAgg135,
  z229 := Tryd.sizeOf135,
  v229 := Tryd.zeroValue135 }

def ren110 : Go.Shelf.Ren := ⟨fun | 110 => 26 | 109 => 51 | n => n, fun | 31 => 22 | 9 => 9 | 4 => 4 | 3 => 3 | 0 => 0 | n => n, fun n => n⟩
theorem lays110 : Lays.n110 Tryd.prog ren110 := {
  mixed := by kernel_rfl,
  f109 := Tryd.func51.trans (congrArg some (by kernel_rfl)),
  f110 := Tryd.func26.trans (congrArg some (by kernel_rfl)),
  t0 := Tryd.underlying0,
  a0 := Tryd.isAgg0,
  z0 := Tryd.sizeOf0,
  v0 := Tryd.zeroValue0,
  t3 := Tryd.underlying3,
  a3 := Tryd.isAgg3,
  z3 := Tryd.sizeOf3,
  v3 := Tryd.zeroValue3,
  t4 := Tryd.underlying4,
  a4 := Tryd.isAgg4,
  z4 := Tryd.sizeOf4,
  v4 := Tryd.zeroValue4,
  t9 := Tryd.underlying9,
  a9 := Tryd.isAgg9,
  z9 := Tryd.sizeOf9,
  v9 := Tryd.zeroValue9,
  t31 := Tryd.underlying22,
  a31 := Tryd.isAgg22,
  z31 := Tryd.sizeOf22,
  v31 := Tryd.zeroValue22 }

end Go.Proofs.YtmoahflgcojfcaaDoor.ShelfLay

namespace Go.Proofs.YtmoahflgcojfcaaDoor.StopsPlain

/-- The text of the stop words. -/
def stopText : List UInt8 := [97, 32, 97, 110, 32, 97, 110, 100, 32, 97, 114, 101, 32, 97, 115, 32, 97, 116, 32, 98, 101, 32, 98, 117, 116, 32, 98, 121, 32, 102, 111, 114, 32, 102, 114, 111, 109, 32, 104, 97, 115, 32, 104, 101, 32, 105, 102, 32, 105, 110, 32, 105, 110, 116, 111, 32, 105, 115, 32, 105, 116, 32, 105, 116, 115, 32, 110, 111, 32, 110, 111, 116, 32, 111, 102, 32, 111, 110, 32, 111, 114, 32, 115, 104, 101, 32, 115, 111, 32, 115, 117, 99, 104, 32, 116, 104, 97, 116, 32, 116, 104, 101, 32, 116, 104, 101, 105, 114, 32, 116, 104, 101, 110, 32, 116, 104, 101, 114, 101, 32, 116, 104, 101, 115, 101, 32, 116, 104, 101, 121, 32, 116, 104, 105, 115, 32, 116, 111, 32, 119, 97, 115, 32, 119, 101, 32, 119, 101, 114, 101, 32, 119, 105, 108, 108, 32, 119, 105, 116, 104, 32, 121, 111, 117]
/-- The stop words. -/
def stopWords : List (List UInt8) := [[97], [97, 110], [97, 110, 100], [97, 114, 101], [97, 115], [97, 116], [98, 101], [98, 117, 116], [98, 121], [102, 111, 114], [102, 114, 111, 109], [104, 97, 115], [104, 101], [105, 102], [105, 110], [105, 110, 116, 111], [105, 115], [105, 116], [105, 116, 115], [110, 111], [110, 111, 116], [111, 102], [111, 110], [111, 114], [115, 104, 101], [115, 111], [115, 117, 99, 104], [116, 104, 97, 116], [116, 104, 101], [116, 104, 101, 105, 114], [116, 104, 101, 110], [116, 104, 101, 114, 101], [116, 104, 101, 115, 101], [116, 104, 101, 121], [116, 104, 105, 115], [116, 111], [119, 97, 115], [119, 101], [119, 101, 114, 101], [119, 105, 108, 108], [119, 105, 116, 104], [121, 111, 117]]

theorem stop_fields : Lib.fields stopText = stopWords := by kernel_rfl
theorem stop_ascii : stopText.all (fun b => decide (b.toNat < 128)) = true := by kernel_rfl
theorem stop_len : stopWords.length = 42 := by kernel_rfl
/-- Each ahead of the next. -/
def risesB : List (List UInt8) → Bool
  | a :: b :: r => decide (a ≤ b) && risesB (b :: r)
  | _ => true
theorem stop_rises : risesB stopWords = true := by kernel_rfl
theorem rises_pairwise : ∀ l : List (List UInt8), risesB l = true → l.Pairwise (fun x y => x ≤ y)
  | [], _ => List.Pairwise.nil
  | [_], _ => by simp
  | a :: b :: r, h => by
    simp only [risesB, Bool.and_eq_true, decide_eq_true_eq] at h
    have ih := rises_pairwise (b :: r) h.2
    refine List.Pairwise.cons (fun x hx => ?_) ih
    rcases List.mem_cons.1 hx with rfl | hx
    · exact h.1
    · exact List.le_trans h.1 ((List.pairwise_cons.1 ih).1 x hx)
theorem stop_sorted : (stopWords.mergeSort fun x y => decide (x ≤ y)) = stopWords :=
  List.mergeSort_of_pairwise ((rises_pairwise _ stop_rises).imp fun h => by simpa using h)
end Go.Proofs.YtmoahflgcojfcaaDoor.StopsPlain

namespace Go.Proofs.YtmoahflgcojfcaaDoor.StopsWalk
open Go.RowKit Go.PlainAid Go.Sort Base StopsPlain ShelfLay

/-- The table that strings.Fields reads, as it was laid. -/
def Tab (w : World) : Prop := Lib.TabIs Tryd.prog w "strings.asciiSpace" .u8 Lib.asciiSpaceTab

theorem stop_size : (⟨stopText.toArray⟩ : ByteArray).size < 4294967281 := by
  exact Nat.lt_of_le_of_lt (show stopText.length ≤ 1000 from of_decide_eq_true (by kernel_rfl)) (by decide)

theorem fields_stop (w : World) (ht : Tab w) :
    Calls Tryd.prog 24 #[.string ⟨stopText.toArray⟩] w fun e w' => e = .returned (.slice (some ⟨w.heap.size, 0, none⟩) stopWords.length stopWords.length) ∧ w' = w.alloc (.cells (stopWords.map encStr).toArray 9) := by
  have h := Any.strings_Fields lays157 (by kernel_rfl) (by kernel_rfl) ⟨stopText.toArray⟩ w stop_size (fun j b hb => by
    have := List.all_eq_true.1 stop_ascii b (List.mem_of_getElem? hb)
    simpa using this) ht
  rw [show (⟨stopText.toArray⟩ : ByteArray).data.toList = stopText from rfl, stop_fields] at h
  exact h

theorem sort_stop (w : World) (g cap : Nat) (hg : w.heap[g]? = some (.cells (stopWords.map encStr).toArray 9 (0, 0))) (base : Nat) (hb : base ≤ g) :
    Calls Tryd.prog 25 #[.slice (some ⟨g, 0, none⟩) stopWords.length stopWords.length] w fun e w' => e = .returned (.tuple #[]) ∧
      w'.ownsRow base 9 1 (.slice (some ⟨g, 0, none⟩) stopWords.length stopWords.length) stopWords.length (stopWords.map encStr) ∧ w.grownBy w' (some g) := by
  have hlt : g < w.heap.size := (Array.getElem?_eq_some_iff.1 hg).1
  have h := Any.slices_Sort_string lays190 g 0 stopWords.length stopWords w (holds_of_block hg (by rw [List.toList_toArray]; exact List.take_of_length_le (by simp))) hlt (by rw [stop_len]; decide)
  rw [stop_sorted] at h
  refine h.mono ?_
  rintro e w' ⟨rfl, n, os, rfl⟩
  exact ⟨rfl, ownsRow_sorted rfl hb hg (Nat.le_refl _) (by rw [stop_len]; decide) (by simp), grownBy_sorted _⟩

/-- The stop words, new in memory. -/
def StopsMade (w : World) (e : Ending) (w' : World) : Prop :=
  ∃ g, e = .returned (.slice (some ⟨g, 0, none⟩) stopWords.length stopWords.length) ∧ w'.ownsRow w.heap.size 9 1 (.slice (some ⟨g, 0, none⟩) stopWords.length stopWords.length) stopWords.length (stopWords.map encStr) ∧ Below w.heap.size w w'

theorem tab_below {w w' : World} {B : Nat} (h : Tab w) (hb : Below B w w') (hB : 0 < B) : Tab w' :=
  var?_below hb (g := 0) (by kernel_rfl) hB h

set_option maxHeartbeats 2000000 in
theorem stops_any (w : World) (ht : Tab w) : Calls Tryd.prog 9 #[] w (StopsMade w) := by
  have F := Lib.hid (fields_stop w ht)
  have hS := sort_stop (w.alloc (.cells (stopWords.map encStr).toArray 9)) w.heap.size 0 (heap_alloc_new w _) w.heap.size (Nat.le_refl _)
  have HS := Lib.hid hS
  obtain ⟨n, hn⟩ : ∃ n, n = stopWords.length := ⟨_, rfl⟩
  have HN := Lib.hid hn
  clear hS hn
  go_enter Tryd.func9, Tryd.ntmps9
  go_wp2_with fail
  go_at_call 24
  refine F.out.mono ?_
  rintro e w1 ⟨rfl, hw1⟩
  subst hw1
  go_wp2_with fail
  go_at_call 25
  refine HS.out.mono ?_
  rintro e w2 ⟨rfl, hown, hgr⟩
  go_wp2_with fail
  go_ret
  refine ⟨w.heap.size, rfl, hown, ?_⟩
  exact ⟨hgr.os, hgr.tape, hgr.output, by have := hgr.size; simp at this; omega, fun k hk => (hgr.block k (by simp; omega) (by simp; omega)).trans (Below.heap_alloc w _ k hk)⟩

/-- The stop words as strings. -/
def stopStrs : List ByteArray := stopWords.map fun l => ⟨l.toArray⟩
/-- Is it a stop word? -/
def isStopB (x : ByteArray) : Bool := Lib.containsS stopStrs x
theorem isStopB_iff (x : ByteArray) : isStopB x = true ↔ x ∈ stopStrs := Lib.containsS_iff _ _
theorem stopStrs_len : stopStrs.length = stopWords.length := by simp [stopStrs]
theorem stop_cell {w : World} {base g : Nat} (h : w.ownsRow base 9 1 (.slice (some ⟨g, 0, none⟩) stopWords.length stopWords.length) stopWords.length (stopWords.map encStr)) (j : Nat) (hj : j < stopStrs.length) :
    w.cell? ⟨g, 0 + j, none⟩ = some (.string (stopStrs.getD j ByteArray.empty)) := by
  rw [stopStrs_len] at hj
  rw [Nat.zero_add, h.cellAt j (by simpa using hj)]
  simp [stopStrs, hj, encStr]

theorem contains_stop {w : World} {base g : Nat} (x : ByteArray) (h : w.ownsRow base 9 1 (.slice (some ⟨g, 0, none⟩) stopWords.length stopWords.length) stopWords.length (stopWords.map encStr)) :
    Calls Tryd.prog 26 #[.slice (some ⟨g, 0, none⟩) stopWords.length stopWords.length, .string x] w fun e w' => e = .returned (.bool (isStopB x)) ∧ w' = w := by
  have h1 := Any.slices_Contains_string lays110 g 0 stopWords.length stopWords.length stopStrs x w (by rw [stopStrs_len]; exact Nat.le_refl _) (by rw [stop_len]; decide) (fun j hj => stop_cell h j hj)
  rw [← stopStrs_len, List.take_length] at h1
  rw [← stopStrs_len]
  exact h1

set_option maxHeartbeats 2000000 in
theorem isStop_any (x : ByteArray) (w : World) (ht : Tab w) : Calls Tryd.prog 11 #[.string x] w fun e w' => e = .returned (.bool (isStopB x)) ∧ Below w.heap.size w w' := by
  have F := Lib.hid (stops_any w ht)
  obtain ⟨n, hn⟩ : ∃ n, n = stopWords.length := ⟨_, rfl⟩
  go_enter Tryd.func11, Tryd.ntmps11
  go_wp2_with fail
  go_at_call 9
  refine F.out.mono ?_
  rintro e w1 ⟨g, rfl, hown, hb⟩
  have C := Lib.hid (contains_stop x hown)
  clear hown hn
  go_wp2_with fail
  go_at_call 26
  refine C.out.mono ?_
  rintro e w2 ⟨rfl, rfl⟩
  go_wp2_with fail
  go_ret
  exact ⟨rfl, hb⟩

set_option maxHeartbeats 2000000 in
theorem refStops_any (w : World) : Calls Tryd.prog 10 #[] w (StopsMade w) := by
  have hrow : (w.alloc (.cells (stopWords.map encStr).toArray 9)).ownsRow w.heap.size 9 1 (.slice (some ⟨w.heap.size, 0, none⟩) stopWords.length stopWords.length) stopWords.length (stopWords.map encStr) := by
    have := World.ownsRow_lit (e := 9) (size := 1) (base := w.heap.size) w (stopWords.map encStr).toArray stopWords.length (Nat.le_refl _) (by rw [stop_len]; decide) (by simp)
    simpa using this
  have HR := Lib.hid hrow
  clear hrow
  go_enter Tryd.func10, Tryd.ntmps10
  go_wp2_with fail
  go_ret
  exact ⟨w.heap.size, rfl, HR.out, by (repeat (first | exact Below.refl _ _ | assumption | refine balloc ?_ _ | refine bdrew ?_ | refine bdrewN ?_ _ | refine bchain ?_ (by assumption)))⟩
end Go.Proofs.YtmoahflgcojfcaaDoor.StopsWalk
