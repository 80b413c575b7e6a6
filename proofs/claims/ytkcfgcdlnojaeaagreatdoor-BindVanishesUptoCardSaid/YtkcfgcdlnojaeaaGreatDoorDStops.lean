/-
  strings.Fields, slices.Sort and slices.Contains over strings, and all that they reach, as this program bears them.
  The stop words, as lists of bytes: they are the words of the one text, and they rise.
  The walks of tokens.Stops and tokens.IsStop.
-/
import Derived.Test.YtkcfgcdlnojaeaaGreatDoorChecked
import Derived.Shelf.Lays
import Derived.Lib.Fields
import Derived.KernelRfl
import Derived.Sort.EncStr
import Derived.Test.YtkcfgcdlnojaeaaGreatDoorBase
import Derived.Shelf.Strings.Fields
import Derived.Shelf.Sort.Plain
import Derived.Shelf.Slices.Turned
import Derived.Sort.OwnSorted
import Derived.WalkSmall
set_option linter.unusedVariables false
set_option linter.unusedSimpArgs false
namespace Go.Proofs.YtkcfgcdlnojaeaaGreatDoor.ShelfLay
open Go.Shelf
set_option maxRecDepth 100000

def ren157 : Go.Shelf.Ren := ⟨fun | 157 => 142 | 229 => 159 | 199 => 160 | 261 => 174 | 311 => 196 | 312 => 197 | n => n, fun | 9 => 9 | 31 => 22 | 3 => 3 | 5 => 5 | 4 => 4 | 119 => 209 | 0 => 0 | 40 => 211 | 152 => 225 | 21 => 21 | 154 => 227 | 51 => 228 | 141 => 230 | 196 => 253 | 193 => 250 | 198 => 256 | 49 => 254 | 194 => 251 | 201 => 259 | 226 => 267 | 46 => 175 | 227 => 268 | n => n, fun | 0 => 3 | 6 => 4 | n => n⟩
theorem lays157 : Lays.n157 Tryz.prog ren157 := {
  mixed := by kernel_rfl,
  f157 := Tryz.func142.trans (congrArg some (by kernel_rfl)),
  f199 := Tryz.func160.trans (congrArg some (by kernel_rfl)),
  f229 := Tryz.func159.trans (congrArg some (by kernel_rfl)),
  f261 := Tryz.func174.trans (congrArg some (by kernel_rfl)),
  f311 := Tryz.func196.trans (congrArg some (by kernel_rfl)),
  f312 := Tryz.func197.trans (congrArg some (by kernel_rfl)),
  t0 := Tryz.underlying0,
  a0 := Tryz.isAgg0,
  z0 := Tryz.sizeOf0,
  v0 := Tryz.zeroValue0,
  t3 := Tryz.underlying3,
  a3 := Tryz.isAgg3,
  z3 := Tryz.sizeOf3,
  v3 := Tryz.zeroValue3,
  t4 := Tryz.underlying4,
  a4 := Tryz.isAgg4,
  z4 := Tryz.sizeOf4,
  v4 := Tryz.zeroValue4,
  t5 := Tryz.underlying5,
  a5 := Tryz.isAgg5,
  z5 := Tryz.sizeOf5,
  v5 := Tryz.zeroValue5,
  t9 := Tryz.underlying9,
  a9 := Tryz.isAgg9,
  z9 := Tryz.sizeOf9,
  v9 := Tryz.zeroValue9,
  t21 := Tryz.underlying21,
  a21 := Tryz.isAgg21,
  z21 := Tryz.sizeOf21,
  v21 := Tryz.zeroValue21,
  t31 := Tryz.underlying22,
  a31 := Tryz.isAgg22,
  z31 := Tryz.sizeOf22,
  v31 := Tryz.zeroValue22,
  t40 := Tryz.underlying211,
  a40 := Tryz.isAgg211,
  z40 := Tryz.sizeOf211,
  v40 := Tryz.zeroValue211,
  t46 := Tryz.underlying175,
  a46 := Tryz.isAgg175,
  z46 := Tryz.sizeOf175,
  v46 := Tryz.zeroValue175,
  t49 := Tryz.underlying254,
  a49 := Tryz.isAgg254,
  z49 := Tryz.sizeOf254,
  v49 := Tryz.zeroValue254,
  t51 := Tryz.underlying228,
  a51 := Tryz.isAgg228,
  z51 := Tryz.sizeOf228,
  v51 := Tryz.zeroValue228,
  t119 := Tryz.underlying209,
  a119 := Tryz.isAgg209,
  z119 := Tryz.sizeOf209,
  t141 := Tryz.underlying230,
  a141 := Tryz.isAgg230,
  z141 := Tryz.sizeOf230,
  v141 := Tryz.zeroValue230,
  t152 := Tryz.underlying225,
  a152 := Tryz.isAgg225,
  z152 := Tryz.sizeOf225,
  v152 := Tryz.zeroValue225,
  t154 := Tryz.underlying227,
  a154 := Tryz.isAgg227,
  z154 := Tryz.sizeOf227,
  v154 := Tryz.zeroValue227,
  t193 := Tryz.underlying250,
  a193 := Tryz.isAgg250,
  z193 := Tryz.sizeOf250,
  v193 := Tryz.zeroValue250,
  t194 := Tryz.underlying251,
  a194 := Tryz.isAgg251,
  z194 := Tryz.sizeOf251,
  v194 := Tryz.zeroValue251,
  t196 := Tryz.underlying253,
  a196 := Tryz.isAgg253,
  z196 := Tryz.sizeOf253,
  v196 := Tryz.zeroValue253,
  t198 := Tryz.underlying256,
  a198 := Tryz.isAgg256,
  z198 := Tryz.sizeOf256,
  v198 := Tryz.zeroValue256,
  t201 := Tryz.underlying259,
  a201 := Tryz.isAgg259,
  z201 := Tryz.sizeOf259,
  v201 := Tryz.zeroValue259,
  t226 := Tryz.underlying267,
  a226 := Tryz.isAgg267,
  z226 := Tryz.sizeOf267,
  v226 := Tryz.zeroValue267,
  t227 := Tryz.underlying268,
  a227 := Tryz.isAgg268,
  z227 := Tryz.sizeOf268,
  v227 := Tryz.zeroValue268,
  g0 := by kernel_rfl,
  g6 := by kernel_rfl }

def ren190 : Go.Shelf.Ren := ⟨fun | 190 => 143 | 125 => 162 | 258 => 161 | 128 => 184 | 129 => 185 | 302 => 175 | 303 => 176 | 304 => 177 | 305 => 178 | 306 => 179 | 307 => 180 | 308 => 181 | 309 => 182 | 310 => 183 | 333 => 198 | 329 => 199 | 330 => 200 | 334 => 201 | 335 => 202 | 336 => 203 | 344 => 208 | n => n, fun | 31 => 22 | 9 => 9 | 3 => 3 | 46 => 175 | 0 => 0 | 51 => 228 | 53 => 24 | 4 => 4 | 183 => 233 | 182 => 232 | 131 => 94 | 5 => 5 | 218 => 261 | 222 => 265 | 228 => 269 | 229 => 270 | n => n, fun n => n⟩
theorem lays190 : Lays.n190 Tryz.prog ren190 := {
  mixed := by kernel_rfl,
  f125 := Tryz.func162.trans (congrArg some (by kernel_rfl)),
  f128 := Tryz.func184.trans (congrArg some (by kernel_rfl)),
  f129 := Tryz.func185.trans (congrArg some (by kernel_rfl)),
  f190 := Tryz.func143.trans (congrArg some (by kernel_rfl)),
  f258 := Tryz.func161.trans (congrArg some (by kernel_rfl)),
  f302 := Tryz.func175.trans (congrArg some (by kernel_rfl)),
  f303 := Tryz.func176.trans (congrArg some (by kernel_rfl)),
  f304 := Tryz.func177.trans (congrArg some (by kernel_rfl)),
  f305 := Tryz.func178.trans (congrArg some (by kernel_rfl)),
  f306 := Tryz.func179.trans (congrArg some (by kernel_rfl)),
  f307 := Tryz.func180.trans (congrArg some (by kernel_rfl)),
  f308 := Tryz.func181.trans (congrArg some (by kernel_rfl)),
  f309 := Tryz.func182.trans (congrArg some (by kernel_rfl)),
  f310 := Tryz.func183.trans (congrArg some (by kernel_rfl)),
  f329 := Tryz.func199.trans (congrArg some (by kernel_rfl)),
  f330 := Tryz.func200.trans (congrArg some (by kernel_rfl)),
  f333 := Tryz.func198.trans (congrArg some (by kernel_rfl)),
  f334 := Tryz.func201.trans (congrArg some (by kernel_rfl)),
  f335 := Tryz.func202.trans (congrArg some (by kernel_rfl)),
  f336 := Tryz.func203.trans (congrArg some (by kernel_rfl)),
  f344 := Tryz.func208.trans (congrArg some (by kernel_rfl)),
  t0 := Tryz.underlying0,
  a0 := Tryz.isAgg0,
  z0 := Tryz.sizeOf0,
  v0 := Tryz.zeroValue0,
  t3 := Tryz.underlying3,
  a3 := Tryz.isAgg3,
  z3 := Tryz.sizeOf3,
  v3 := Tryz.zeroValue3,
  t4 := Tryz.underlying4,
  a4 := Tryz.isAgg4,
  z4 := Tryz.sizeOf4,
  v4 := Tryz.zeroValue4,
  t5 := Tryz.underlying5,
  a5 := Tryz.isAgg5,
  z5 := Tryz.sizeOf5,
  v5 := Tryz.zeroValue5,
  t9 := Tryz.underlying9,
  a9 := Tryz.isAgg9,
  z9 := Tryz.sizeOf9,
  v9 := Tryz.zeroValue9,
  t31 := Tryz.underlying22,
  a31 := Tryz.isAgg22,
  z31 := Tryz.sizeOf22,
  v31 := Tryz.zeroValue22,
  t46 := Tryz.underlying175,
  a46 := Tryz.isAgg175,
  z46 := Tryz.sizeOf175,
  v46 := Tryz.zeroValue175,
  t51 := Tryz.underlying228,
  a51 := Tryz.isAgg228,
  z51 := Tryz.sizeOf228,
  v51 := Tryz.zeroValue228,
  t53 := Tryz.underlying24,
  a53 := Tryz.isAgg24,
  z53 := Tryz.sizeOf24,
  v53 := Tryz.zeroValue24,
  t131 := Tryz.underlying94,
  a131 := Tryz.isAgg94,
  z131 := Tryz.sizeOf94,
  v131 := Tryz.zeroValue94,
  t182 := Tryz.underlying232,
  a182 := Tryz.isAgg232,
  z182 := Tryz.sizeOf232,
  v182 := Tryz.zeroValue232,
  t183 := Tryz.underlying233,
  a183 := Tryz.isAgg233,
  z183 := Tryz.sizeOf233,
  v183 := Tryz.zeroValue233,
  t218 := Tryz.underlying261,
  a218 := Tryz.isAgg261,
  z218 := Tryz.sizeOf261,
  v218 := Tryz.zeroValue261,
  t222 := Tryz.underlying265,
  a222 := Tryz.isAgg265,
  z222 := Tryz.sizeOf265,
  v222 := Tryz.zeroValue265,
  t228 := Tryz.underlying269,
  a228 := Tryz.isAgg269,
  z228 := Tryz.sizeOf269,
  v228 := Tryz.zeroValue269,
  t229 := Tryz.underlying270,
  a229 := Tryz.isAgg270,
  z229 := Tryz.sizeOf270,
  v229 := Tryz.zeroValue270 }

def ren110 : Go.Shelf.Ren := ⟨fun | 110 => 226 | 109 => 227 | n => n, fun | 31 => 22 | 9 => 9 | 4 => 4 | 3 => 3 | 0 => 0 | n => n, fun n => n⟩
theorem lays110 : Lays.n110 Tryz.prog ren110 := {
  mixed := by kernel_rfl,
  f109 := Tryz.func227.trans (congrArg some (by kernel_rfl)),
  f110 := Tryz.func226.trans (congrArg some (by kernel_rfl)),
  t0 := Tryz.underlying0,
  a0 := Tryz.isAgg0,
  z0 := Tryz.sizeOf0,
  v0 := Tryz.zeroValue0,
  t3 := Tryz.underlying3,
  a3 := Tryz.isAgg3,
  z3 := Tryz.sizeOf3,
  v3 := Tryz.zeroValue3,
  t4 := Tryz.underlying4,
  a4 := Tryz.isAgg4,
  z4 := Tryz.sizeOf4,
  v4 := Tryz.zeroValue4,
  t9 := Tryz.underlying9,
  a9 := Tryz.isAgg9,
  z9 := Tryz.sizeOf9,
  v9 := Tryz.zeroValue9,
  t31 := Tryz.underlying22,
  a31 := Tryz.isAgg22,
  z31 := Tryz.sizeOf22,
  v31 := Tryz.zeroValue22 }

end Go.Proofs.YtkcfgcdlnojaeaaGreatDoor.ShelfLay

namespace Go.Proofs.YtkcfgcdlnojaeaaGreatDoor.StopsPlain

def stopText : List UInt8 := [97, 32, 97, 110, 32, 97, 110, 100, 32, 97, 114, 101, 32, 97, 115, 32, 97, 116, 32, 98, 101, 32, 98, 117, 116, 32, 98, 121, 32, 102, 111, 114, 32, 102, 114, 111, 109, 32, 104, 97, 115, 32, 104, 101, 32, 105, 102, 32, 105, 110, 32, 105, 110, 116, 111, 32, 105, 115, 32, 105, 116, 32, 105, 116, 115, 32, 110, 111, 32, 110, 111, 116, 32, 111, 102, 32, 111, 110, 32, 111, 114, 32, 115, 104, 101, 32, 115, 111, 32, 115, 117, 99, 104, 32, 116, 104, 97, 116, 32, 116, 104, 101, 32, 116, 104, 101, 105, 114, 32, 116, 104, 101, 110, 32, 116, 104, 101, 114, 101, 32, 116, 104, 101, 115, 101, 32, 116, 104, 101, 121, 32, 116, 104, 105, 115, 32, 116, 111, 32, 119, 97, 115, 32, 119, 101, 32, 119, 101, 114, 101, 32, 119, 105, 108, 108, 32, 119, 105, 116, 104, 32, 121, 111, 117]
def stopWords : List (List UInt8) := [[97], [97, 110], [97, 110, 100], [97, 114, 101], [97, 115], [97, 116], [98, 101], [98, 117, 116], [98, 121], [102, 111, 114], [102, 114, 111, 109], [104, 97, 115], [104, 101], [105, 102], [105, 110], [105, 110, 116, 111], [105, 115], [105, 116], [105, 116, 115], [110, 111], [110, 111, 116], [111, 102], [111, 110], [111, 114], [115, 104, 101], [115, 111], [115, 117, 99, 104], [116, 104, 97, 116], [116, 104, 101], [116, 104, 101, 105, 114], [116, 104, 101, 110], [116, 104, 101, 114, 101], [116, 104, 101, 115, 101], [116, 104, 101, 121], [116, 104, 105, 115], [116, 111], [119, 97, 115], [119, 101], [119, 101, 114, 101], [119, 105, 108, 108], [119, 105, 116, 104], [121, 111, 117]]

theorem stop_fields : Lib.fields stopText = stopWords := by kernel_rfl
theorem stop_ascii : stopText.all (fun b => decide (b.toNat < 128)) = true := by kernel_rfl
theorem stop_len : stopWords.length = 42 := by kernel_rfl
def risesB : List (List UInt8) → Bool
  | a :: b :: r => decide (a ≤ b) && risesB (b :: r)
  | _ => true
theorem stop_rises : risesB stopWords = true := by kernel_rfl
theorem rises_pairwise : ∀ l : List (List UInt8), risesB l = true → l.Pairwise (fun x y => x ≤ y)
  | [], _ => List.Pairwise.nil
  | [_], _ => by simp
  | a :: b :: r, h => by
    simp only [risesB, Bool.and_eq_true, decide_eq_true_eq] at h
    have ih := rises_pairwise (b :: r) h.2
    refine List.Pairwise.cons (fun x hx => ?_) ih
    rcases List.mem_cons.1 hx with rfl | hx
    · exact h.1
    · exact List.le_trans h.1 ((List.pairwise_cons.1 ih).1 x hx)
theorem stop_sorted : (stopWords.mergeSort fun x y => decide (x ≤ y)) = stopWords :=
  List.mergeSort_of_pairwise ((rises_pairwise _ stop_rises).imp fun h => by simpa using h)
end Go.Proofs.YtkcfgcdlnojaeaaGreatDoor.StopsPlain

namespace Go.Proofs.YtkcfgcdlnojaeaaGreatDoor.StopsWalk
open Go.RowKit Go.PlainAid Go.Sort Base StopsPlain ShelfLay

def Tab (w : World) : Prop := Lib.TabIs Tryz.prog w "strings.asciiSpace" .u8 Lib.asciiSpaceTab

theorem stop_size : (⟨stopText.toArray⟩ : ByteArray).size < 4294967281 := by
  exact Nat.lt_of_le_of_lt (show stopText.length ≤ 1000 from of_decide_eq_true (by kernel_rfl)) (by decide)

theorem fields_stop (w : World) (ht : Tab w) :
    Calls Tryz.prog 142 #[.string ⟨stopText.toArray⟩] w fun e w' => e = .returned (.slice (some ⟨w.heap.size, 0, none⟩) stopWords.length stopWords.length) ∧ w' = w.alloc (.cells (stopWords.map encStr).toArray 9) := by
  have h := Any.strings_Fields lays157 (by kernel_rfl) (by kernel_rfl) ⟨stopText.toArray⟩ w stop_size (fun j b hb => by
    have := List.all_eq_true.1 stop_ascii b (List.mem_of_getElem? hb)
    simpa using this) ht
  rw [show (⟨stopText.toArray⟩ : ByteArray).data.toList = stopText from rfl, stop_fields] at h
  exact h

theorem sort_stop (w : World) (g cap : Nat) (hg : w.heap[g]? = some (.cells (stopWords.map encStr).toArray 9 (0, 0))) (base : Nat) (hb : base ≤ g) :
    Calls Tryz.prog 143 #[.slice (some ⟨g, 0, none⟩) stopWords.length stopWords.length] w fun e w' => e = .returned (.tuple #[]) ∧
      w'.ownsRow base 9 1 (.slice (some ⟨g, 0, none⟩) stopWords.length stopWords.length) stopWords.length (stopWords.map encStr) ∧ w.grownBy w' (some g) := by
  have hlt : g < w.heap.size := (Array.getElem?_eq_some_iff.1 hg).1
  have h := Any.slices_Sort_string lays190 g 0 stopWords.length stopWords w (holds_of_block hg (by rw [List.toList_toArray]; exact List.take_of_length_le (by simp))) hlt (by rw [stop_len]; decide)
  rw [stop_sorted] at h
  refine h.mono ?_
  rintro e w' ⟨rfl, n, os, rfl⟩
  exact ⟨rfl, ownsRow_sorted rfl hb hg (Nat.le_refl _) (by rw [stop_len]; decide) (by simp), grownBy_sorted _⟩

def StopsMade (w : World) (e : Ending) (w' : World) : Prop :=
  ∃ g, e = .returned (.slice (some ⟨g, 0, none⟩) stopWords.length stopWords.length) ∧ w'.ownsRow w.heap.size 9 1 (.slice (some ⟨g, 0, none⟩) stopWords.length stopWords.length) stopWords.length (stopWords.map encStr) ∧ Below w.heap.size w w'

theorem tab_below {w w' : World} {B : Nat} (h : Tab w) (hb : Below B w w') (hB : 3 < B) : Tab w' :=
  var?_below hb (g := 3) (by kernel_rfl) hB h

set_option maxHeartbeats 2000000 in
theorem stops_any (w : World) (ht : Tab w) : Calls Tryz.prog 116 #[] w (StopsMade w) := by
  have F := Lib.hid (fields_stop w ht)
  have hS := sort_stop (w.alloc (.cells (stopWords.map encStr).toArray 9)) w.heap.size 0 (heap_alloc_new w _) w.heap.size (Nat.le_refl _)
  have HS := Lib.hid hS
  obtain ⟨n, hn⟩ : ∃ n, n = stopWords.length := ⟨_, rfl⟩
  have HN := Lib.hid hn
  clear hS hn
  go_enter Tryz.func116, Tryz.ntmps116
  go_wp2_with fail
  go_at_call 142
  refine F.out.mono ?_
  rintro e w1 ⟨rfl, hw1⟩
  subst hw1
  go_wp2_with fail
  go_at_call 143
  refine HS.out.mono ?_
  rintro e w2 ⟨rfl, hown, hgr⟩
  go_wp2_with fail
  go_ret
  refine ⟨w.heap.size, rfl, hown, ?_⟩
  exact ⟨hgr.os, hgr.tape, hgr.output, by have := hgr.size; simp at this; omega, fun k hk => (hgr.block k (by simp; omega) (by simp; omega)).trans (Below.heap_alloc w _ k hk)⟩

def stopStrs : List ByteArray := stopWords.map fun l => ⟨l.toArray⟩
def isStopB (x : ByteArray) : Bool := Lib.containsS stopStrs x
theorem isStopB_iff (x : ByteArray) : isStopB x = true ↔ x ∈ stopStrs := Lib.containsS_iff _ _
theorem stopStrs_len : stopStrs.length = stopWords.length := by simp [stopStrs]
theorem stop_cell {w : World} {base g : Nat} (h : w.ownsRow base 9 1 (.slice (some ⟨g, 0, none⟩) stopWords.length stopWords.length) stopWords.length (stopWords.map encStr)) (j : Nat) (hj : j < stopStrs.length) :
    w.cell? ⟨g, 0 + j, none⟩ = some (.string (stopStrs.getD j ByteArray.empty)) := by
  rw [stopStrs_len] at hj
  rw [Nat.zero_add, h.cellAt j (by simpa using hj)]
  simp [stopStrs, hj, encStr]

theorem contains_stop {w : World} {base g : Nat} (x : ByteArray) (h : w.ownsRow base 9 1 (.slice (some ⟨g, 0, none⟩) stopWords.length stopWords.length) stopWords.length (stopWords.map encStr)) :
    Calls Tryz.prog 226 #[.slice (some ⟨g, 0, none⟩) stopWords.length stopWords.length, .string x] w fun e w' => e = .returned (.bool (isStopB x)) ∧ w' = w := by
  have h1 := Any.slices_Contains_string lays110 g 0 stopWords.length stopWords.length stopStrs x w (by rw [stopStrs_len]; exact Nat.le_refl _) (by rw [stop_len]; decide) (fun j hj => stop_cell h j hj)
  rw [← stopStrs_len, List.take_length] at h1
  rw [← stopStrs_len]
  exact h1

set_option maxHeartbeats 2000000 in
theorem refStops_any (w : World) : Calls Tryz.prog 167 #[] w (StopsMade w) := by
  have hrow : (w.alloc (.cells (stopWords.map encStr).toArray 9)).ownsRow w.heap.size 9 1 (.slice (some ⟨w.heap.size, 0, none⟩) stopWords.length stopWords.length) stopWords.length (stopWords.map encStr) := by
    have := World.ownsRow_lit (e := 9) (size := 1) (base := w.heap.size) w (stopWords.map encStr).toArray stopWords.length (Nat.le_refl _) (by rw [stop_len]; decide) (by simp)
    simpa using this
  have HR := Lib.hid hrow
  clear hrow
  go_enter Tryz.func167, Tryz.ntmps167
  go_wp2_with fail
  go_ret
  exact ⟨w.heap.size, rfl, HR.out, by exact Base.bel⟩
end Go.Proofs.YtkcfgcdlnojaeaaGreatDoor.StopsWalk
