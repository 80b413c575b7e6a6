/-
  Sorting a row of hits in place by sort.Slice, where 'less' may make memory: what the sort's functions keep; small laws.
  The walks of sort.insertionSort_func, siftDown_func, heapSort_func where 'less' may make memory.
  The walks of sort.siftDown_func, heapSort_func where 'less' may make memory.
  The walks of sort.partition_func, partitionEqual_func where 'less' may make memory.
  The walks of sort.partition_func, partitionEqual_func where 'less' may make memory.
  The walk of sort.partialInsertionSort_func where 'less' may make memory.
  The walks of sort.order2_func, median_func, medianAdjacent_func, choosePivot_func where 'less' may make memory.
-/
import Derived.Test.YtfpikilhbkeajaaGreatDoorCHit
import Derived.Shelf.SlSortFuncK.WholeK
import Derived.Ground.GgsProg
import Derived.Deep.CutBlock
set_option linter.unusedVariables false
set_option linter.unusedSimpArgs false
namespace Go.Proofs.YtfpikilhbkeajaaGreatDoor.SortBase
open Go.Shelf Go.RowKit Go.Lib Go.Sort Go.PlainAid HitPlain Base HitBase

def Shape (w0 W : World) (blk : Nat) : Prop := ∀ cur t fr, w0.heap[blk]? = some (.cells cur t fr) → ∃ cur', W.heap[blk]? = some (.cells cur' t fr) ∧ cur'.size = cur.size
theorem Shape.refl (w : World) (blk : Nat) : Shape w w blk := fun cur _ _ h => ⟨cur, h, rfl⟩
theorem Shape.same {w0 W W' : World} {blk : Nat} (h : Shape w0 W blk) (hb : W'.heap[blk]? = W.heap[blk]?) : Shape w0 W' blk := fun cur t fr e => by
  obtain ⟨c, h1, h2⟩ := h cur t fr e
  exact ⟨c, hb.trans h1, h2⟩
theorem Shape.map {w0 W : World} {blk : Nat} (h : Shape w0 W blk) (f : Array Value → Array Value) (hf : ∀ c, (f c).size = c.size) : Shape w0 (mapBlock W blk f) blk := fun cur t fr e => by
  obtain ⟨c, h1, h2⟩ := h cur t fr e
  exact ⟨f c, by simp [mapBlock, Array.getElem?_modify, h1, onCells], (hf c).trans h2⟩
theorem Shape.setCell {w0 W : World} {blk : Nat} (h : Shape w0 W blk) (o : Nat) (v : Value) : Shape w0 (W.setCell ⟨blk, o, none⟩ v) blk := by
  rw [setCell_eq]
  exact h.map _ (fun c => by simp)
theorem Shape.setCells {w0 : World} {blk : Nat} : ∀ (vs : List Value) (s : Nat) (W : World), Shape w0 W blk → Shape w0 (W.setCells blk s vs) blk := by
  intro vs
  induction vs with
  | nil => intro s W h; exact h
  | cons v vs ih => intro s W h; exact ih (s + 1) _ (h.setCell s v)

structure Rw (w0 : World) (blk off n : Nat) (W : World) (dk : Array Hit) : Prop where
  holds : HoldsK hitC 2 W blk off dk
  size : dk.size = n
  lt : blk < w0.heap.size
  foot : Foot w0 W (fun g => g ≠ blk)
  shape : Shape w0 W blk

section
variable {w0 W W' : World} {blk off n : Nat} {dk : Array Hit}
theorem Rw.ltW (h : Rw w0 blk off n W dk) : blk < W.heap.size := Nat.lt_of_lt_of_le h.lt h.foot.size
theorem holdsK_block {W W' : World} (h : HoldsK hitC 2 W blk off dk) (hb : W'.heap[blk]? = W.heap[blk]?) : HoldsK hitC 2 W' blk off dk := by
  intro j hj
  obtain ⟨a, b⟩ := h j hj
  exact ⟨(World.cell?_of_block (a := ⟨blk, off + j, none⟩) hb).trans a, (World.frozen?_of_block (a := ⟨blk, off + j, none⟩) hb).trans b⟩
theorem Rw.below (h : Rw w0 blk off n W dk) (hb : Below W.heap.size W W') : Rw w0 blk off n W' dk :=
  ⟨holdsK_block h.holds (hb.block _ h.ltW), h.size, h.lt, h.foot.trans (Foot.ofBelow hb _), h.shape.same (hb.block _ h.ltW)⟩
theorem Rw.alloc (h : Rw w0 blk off n W dk) (o : Obj) : Rw w0 blk off n (W.alloc o) dk := h.below ((Below.refl _ _).alloc (Nat.le_refl _) _)
theorem Rw.start (h : HoldsK hitC 2 W blk off dk) (hb : blk < W.heap.size) : Rw W blk off dk.size W dk := ⟨h, rfl, hb, Foot.refl _ _, Shape.refl _ _⟩
theorem hitC_len (x : Hit) : (hitC x).length = 2 := rfl
theorem foot_setCells (W : World) (blk : Nat) : ∀ (vs : List Value) (s : Nat), Foot W (W.setCells blk s vs) (fun g => g ≠ blk) := by
  intro vs
  induction vs generalizing W with
  | nil => intro s; exact Foot.refl _ _
  | cons v vs ih => intro s; exact ((Foot.refl W _).set_ (p := ⟨blk, s, none⟩) (fun _ h => h rfl) v).trans (ih _ _)
def swapW (W : World) (blk off : Nat) (dk : Array Hit) (i j : Nat) : World := (W.setCells blk (off + i * 2) (hitC dk[j]!)).setCells blk (off + j * 2) (hitC dk[i]!)
theorem foot_swapW (W : World) (dk : Array Hit) (i j : Nat) : Foot W (swapW W blk off dk i j) (fun g => g ≠ blk) := (foot_setCells _ _ _ _).trans (foot_setCells _ _ _ _)
theorem Rw.swap (h : Rw w0 blk off n W dk) (i j : Nat) (hi : i < n) (hj : j < n) : Rw w0 blk off n (swapW W blk off dk i j) (swp dk i j) := by
  have hs := h.size
  refine ⟨?_, by rw [size_swp]; exact hs, h.lt, h.foot.trans (foot_swapW _ _ _ _), Shape.setCells _ _ _ (Shape.setCells _ _ _ h.shape)⟩
  have e : swapW W blk off dk i j = putRowK hitC 2 W blk off (swp dk i j) := by
    have := putRowK_swp hitC 2 hitC_len W blk off dk i j (by omega) (by omega)
    rw [putRowK_self hitC 2 W blk off dk h.holds] at this
    exact this
  rw [e]
  exact holdsK_putRowK hitC 2 W blk off dk (swp dk i j) h.holds (size_swp _ _ _)
end

structure Ls (w0 : World) (blk off n g : Nat) (lb : Array Value) (sf : Nat) (sb : Array Value) (lt : Hit → Hit → Bool) : Prop where
  enter : ∀ args w, (callFunc g args).run Tryz.prog w = .ok (.enter g args) w
  less : ∀ W dk, Rw w0 blk off n W dk → ∀ i j : Nat, i < n → j < n → Calls Tryz.prog g (#[.int .i64 i, .int .i64 j] ++ lb) W fun e w' => e = .returned (.bool (lt dk[i]! dk[j]!)) ∧ Below W.heap.size W w'
  swap : SwapSwapsK Tryz.prog sf sb hitC 2 blk off n
  big : n < 4611686018427387904

section
variable {w0 W : World} {blk off n g sf : Nat} {lb sb : Array Value} {lt : Hit → Hit → Bool} {dk : Array Hit}
theorem Ls.at_ (h : Ls w0 blk off n g lb sf sb lt) (hr : Rw w0 blk off n W dk) {i j : Nat} {x y : Int} (hi : i < n) (hj : j < n) (hx : (i : Int) = x) (hy : (j : Int) = y) {b : Bool} (hb : lt dk[i]! dk[j]! = b) :
    Calls Tryz.prog g (#[.int .i64 x, .int .i64 y] ++ lb) W fun e w' => e = .returned (.bool b) ∧ Below W.heap.size W w' := by
  subst hx hy hb; exact h.less W dk hr i j hi hj
theorem Ls.sw (h : Ls w0 blk off n g lb sf sb lt) (hr : Rw w0 blk off n W dk) {i j : Nat} {x y : Int} (hi : i < n) (hj : j < n) (hx : (i : Int) = x) (hy : (j : Int) = y) :
    (callFunc sf (#[.int .i64 x, .int .i64 y] ++ sb)).run Tryz.prog W = .ok (.value (.tuple #[])) (swapW W blk off dk i j) := by
  subst hx hy; exact h.swap W dk hr.holds hr.size i j hi hj
end

def dataV (g : Nat) (lb : Array Value) (sf : Nat) (sb : Array Value) : Value := .agg #[.func (.func g) #[] lb, .func (.func sf) #[] sb]
def Bx (W : World) (B g : Nat) (lb : Array Value) (sf : Nat) (sb : Array Value) : Prop := Blk W B 157 #[.func (.func g) #[] lb, .func (.func sf) #[] sb]
section
variable {W W' : World} {B g sf blk : Nat} {lb sb : Array Value}
theorem Bx.new (W : World) (g : Nat) (lb : Array Value) (sf : Nat) (sb : Array Value) : Bx (W.alloc (.cells #[.func (.func g) #[] lb, .func (.func sf) #[] sb] 157)) W.heap.size g lb sf sb := Blk.new _ _ _
theorem Bx.c0 (h : Bx W B g lb sf sb) : W.cell? ⟨B, 0, none⟩ = some (.func (.func g) #[] lb) := Blk.cell h 0
theorem Bx.c1 (h : Bx W B g lb sf sb) : W.cell? ⟨B, 1, none⟩ = some (.func (.func sf) #[] sb) := Blk.cell h 1
theorem Bx.foot (h : Bx W B g lb sf sb) (hf : Foot W W' (fun g => g ≠ blk)) (hB : B ≠ blk) : Bx W' B g lb sf sb := hf.blk h hB
theorem Bx.below (h : Bx W B g lb sf sb) (hb : Below W.heap.size W W') : Bx W' B g lb sf sb := Blk.below h hb (Blk.lt h)
end

def SortLeaves (w0 : World) (blk off n : Nat) (W : World) (d' : Array Hit) (w' : World) : Prop := Rw w0 blk off n w' d' ∧ Foot W w' (fun g => g ≠ blk)
end Go.Proofs.YtfpikilhbkeajaaGreatDoor.SortBase

namespace Go.Proofs.YtfpikilhbkeajaaGreatDoor.SortIns
set_option maxRecDepth 100000
open Go.Shelf Go.RowKit Go.Lib Go.Sort Go.PlainAid HitPlain Base HitBase SortBase

section
variable {w0 : World} {blk off n g sf : Nat} {lb sb : Array Value} {lt : Hit → Hit → Bool}

set_option maxHeartbeats 2000000 in
theorem insertion_any (L : Ls w0 blk off n g lb sf sb lt) (W : World) (d : Array Hit) (hR : Rw w0 blk off n W d) (a b : Nat) (hab : a ≤ b) (hb : b ≤ n) :
    Calls Tryz.prog 103 #[.agg #[.func (.func g) #[] lb, .func (.func sf) #[] sb], .int .i64 a, .int .i64 b] W fun e w' => e = .returned (.tuple #[]) ∧ SortLeaves w0 blk off n W (insertionSort lt d a b) w' := by
  have hne : W.heap.size ≠ blk := by have := hR.ltW; omega
  have hbig := L.big
  have eg := L.enter
  go_enter Tryz.func103, Tryz.ntmps103
  go_wp2
  go_loopw [6] (fun vi wr => ∃ (i : Nat) (dk : Array Hit), vi = .int .i64 i ∧ a < i ∧ i ≤ b + 1 ∧ insOuter lt a b i dk = insOuter lt a b (a + 1) d ∧ Rw w0 blk off n wr dk ∧ Bx wr W.heap.size g lb sf sb ∧ Foot W wr (fun g => g ≠ blk)) (fun vi _ => b + 1 - (intOf vi).toNat)
  case atStart => exact ⟨a + 1, d, by go_num, by omega, by omega, rfl, hR.alloc _, Bx.new _ _ _ _ _, (Foot.refl _ _).alloc _⟩
  case round =>
    obtain ⟨i, dk, rfl, hai, hib, hO, hr, hx, hf⟩ := hrel
    have HO := Lib.hid hO
    clear hO
    by_cases hlt : i < b
    · go_wp2
      go_loopw [7] (fun vj wr2 => ∃ (j : Nat) (dj : Array Hit), vj = .int .i64 j ∧ a ≤ j ∧ j ≤ i ∧ insInner lt a j dj = insInner lt a i dk ∧ Rw w0 blk off n wr2 dj ∧ Bx wr2 W.heap.size g lb sf sb ∧ Foot W wr2 (fun g => g ≠ blk)) (fun vj _ => (intOf vj).toNat)
      case atStart => exact ⟨i, dk, rfl, by omega, Nat.le_refl _, rfl, hr, hx, hf⟩
      case round =>
        obtain ⟨j, dj, rfl, haj, hji, hI, hr2, hx2, hf2⟩ := hrel
        have HI := Lib.hid hI
        clear hI hr hx hf hR
        have c0 := hx2.c0
        have c1 := hx2.c1
        have out : (j ≤ a ∨ lt dj[j]! dj[j - 1]! = false) → insOuter lt a b (i + 1) dj = insOuter lt a b (a + 1) d := fun hs => by
          rw [← HO.out, insOuter_go _ _ _ _ _ hlt, ← HI.out, insInner_stop _ _ _ _ hs]
        have OUT := Lib.hid out
        clear out
        by_cases hja : a < j
        · cases hlv : lt dj[j]! dj[j - 1]!
          · have HLV := Lib.hid hlv
            have hl := L.at_ hr2 (i := j) (j := j - 1) (x := (j : Int)) (y := (j : Int) - 1) (by omega) (by omega) rfl (by omega) HLV.out
            clear hlv
            go_wp2_with (go_at_fn g; refine hl.mono ?_; rintro e w1 ⟨rfl, hb1⟩)
            go_roundw
            case rel => exact ⟨i + 1, dj, by go_num, by omega, by omega, OUT.out (.inr HLV.out), hr2.below hb1, hx2.below hb1, hf2.trans (Foot.ofBelow hb1 _)⟩
            case measure => simp [intOf]; omega
          · have HLV := Lib.hid hlv
            have hl := L.at_ hr2 (i := j) (j := j - 1) (x := (j : Int)) (y := (j : Int) - 1) (by omega) (by omega) rfl (by omega) HLV.out
            clear hlv
            go_wp2_with (go_at_fn g; refine hl.mono ?_; rintro e w1 ⟨rfl, hb1⟩; have c3 := (hx2.below hb1).c1)
            have hr3 := hr2.below hb1
            rw [L.sw hr3 (i := j) (j := j - 1) (x := (j : Int)) (y := (j : Int) - 1) (by omega) (by omega) rfl (by omega), Oper.upon_value]
            go_wp2
            go_roundw
            case rel =>
              have hfs := foot_swapW (blk := blk) (off := off) w1 dj j (j - 1)
              exact ⟨j - 1, swp dj j (j - 1), by congr 1; omega, by omega, by omega, by rw [← HI.out, insInner_go lt a j dj hja HLV.out], hr3.swap j (j - 1) (by omega) (by omega), (hx2.below hb1).foot hfs hne, (hf2.trans (Foot.ofBelow hb1 _)).trans hfs⟩
            case measure => simp [intOf]; omega
        · go_wp2
          go_roundw
          case rel => exact ⟨i + 1, dj, by go_num, by omega, by omega, OUT.out (.inl (by omega)), hr2, hx2, hf2⟩
          case measure => simp [intOf]; omega
    · go_wp2
      go_end0
      exact ⟨rfl, by unfold insertionSort; rw [← HO.out, insOuter_stop _ _ _ _ _ hlt]; exact hr, hf⟩
end
end Go.Proofs.YtfpikilhbkeajaaGreatDoor.SortIns

namespace Go.Proofs.YtfpikilhbkeajaaGreatDoor.SortHeap
set_option maxRecDepth 100000
open Go.Shelf Go.RowKit Go.Lib Go.Sort Go.PlainAid HitPlain Base HitBase SortBase

section
variable {w0 : World} {blk off n g sf : Nat} {lb sb : Array Value} {lt : Hit → Hit → Bool}

set_option maxHeartbeats 4000000 in
theorem sift_any (L : Ls w0 blk off n g lb sf sb lt) (W : World) (d : Array Hit) (hR : Rw w0 blk off n W d) (lo hi first : Nat) (hlo : lo ≤ hi) (hb : first + hi ≤ n) :
    Calls Tryz.prog 116 #[.agg #[.func (.func g) #[] lb, .func (.func sf) #[] sb], .int .i64 lo, .int .i64 hi, .int .i64 first] W fun e w' => e = .returned (.tuple #[]) ∧ SortLeaves w0 blk off n W (siftDown lt hi first lo d) w' := by
  have hne : W.heap.size ≠ blk := by have := hR.ltW; omega
  have hbig := L.big
  have eg := L.enter
  go_enter Tryz.func116, Tryz.ntmps116
  go_wp2
  go_loopw [8] (fun s8 wr => ∃ (root : Nat) (dk : Array Hit), s8 = .int .i64 root ∧ root ≤ hi ∧ siftDown lt hi first root dk = siftDown lt hi first lo d ∧ Rw w0 blk off n wr dk ∧ Bx wr W.heap.size g lb sf sb ∧ Foot W wr (fun g => g ≠ blk)) (fun s8 _ => hi - (intOf s8).toNat)
  case atStart => exact ⟨lo, d, rfl, hlo, rfl, hR.alloc _, Bx.new _ _ _ _ _, (Foot.refl _ _).alloc _⟩
  case round =>
    obtain ⟨root, dk, rfl, hr, hE, hr2, hx2, hf2⟩ := hrel
    have HE := Lib.hid hE
    clear hE hR
    have c0 := hx2.c0
    have c1 := hx2.c1
    by_cases h0 : hi ≤ 2 * root + 1
    · have h0z : (hi : Int) ≤ 2 * (root : Int) + 1 := by omega
      go_wp2
      exact bodyPost_end (results_none rfl _ _ _) rfl ⟨rfl, by rw [← HE.out, sd_end lt dk h0]; exact hr2, hf2⟩
    · have h0z : ¬ ((hi : Int) ≤ 2 * (root : Int) + 1) := by omega
      by_cases h1 : 2 * root + 2 < hi
      · have h1z : 2 * (root : Int) + 1 + 1 < (hi : Int) := by omega
        cases hL : lt dk[first + (2 * root + 1)]! dk[first + (2 * root + 2)]!
        · have HL := Lib.hid hL
          have hl1 := L.at_ hr2 (i := first + (2 * root + 1)) (j := first + (2 * root + 2)) (x := (first : Int) + (2 * (root : Int) + 1)) (y := (first : Int) + (2 * (root : Int) + 1) + 1) (by omega) (by omega) (by omega) (by omega) HL.out
          clear hL
          go_wp2_with (go_at_fn g; refine hl1.mono ?_; rintro e w1 ⟨rfl, hb1⟩; have c2 := (hx2.below hb1).c0)
          clear hl1
          have hr3 := hr2.below hb1
          have hx3 := hx2.below hb1
          have hf3 := hf2.trans (Foot.ofBelow hb1 (fun g => g ≠ blk))
          cases hG : lt dk[first + root]! dk[first + (2 * root + 1)]!
          all_goals
            have HG := Lib.hid hG
            have hl2 := L.at_ hr3 (i := first + root) (j := first + (2 * root + 1)) (x := (first : Int) + (root : Int)) (y := (first : Int) + (2 * (root : Int) + 1)) (by omega) (by omega) (by omega) (by omega) HG.out
            clear hG
            go_at_fn g
            refine hl2.mono ?_
            rintro e w2 ⟨rfl, hb2⟩
            have hx4 := hx3.below hb2
            have c3 := hx4.c1
            have hr4 := hr3.below hb2
            have hf4 := hf3.trans (Foot.ofBelow hb2 (fun g => g ≠ blk))
            go_wp2
          · (try simp only [Exit.inBlock, Exit.then])
            refine bodyPost_ret (results_none rfl _ _ _) rfl ?_
            exact ⟨rfl, by rw [← HE.out, sd_left_stop lt dk (by omega) (fun _ => HL.out) HG.out]; exact hr4, hf4⟩
          · rw [L.sw hr4 (i := first + root) (j := first + (2 * root + 1)) (x := (first : Int) + (root : Int)) (y := (first : Int) + (2 * (root : Int) + 1)) (by omega) (by omega) (by omega) (by omega), Oper.upon_value]
            go_wp2
            go_roundw
            case rel =>
              have hfs := foot_swapW (blk := blk) (off := off) w2 dk (first + root) (first + (2 * root + 1))
              exact ⟨2 * root + 1, swp dk (first + root) (first + (2 * root + 1)), by go_num, by omega, by rw [← HE.out, sd_left_go lt dk (by omega) (fun _ => HL.out) HG.out], hr4.swap _ _ (by omega) (by omega), hx4.foot hfs hne, hf4.trans hfs⟩
            case measure => simp [intOf]; omega
        · have HL := Lib.hid hL
          have hl1 := L.at_ hr2 (i := first + (2 * root + 1)) (j := first + (2 * root + 2)) (x := (first : Int) + (2 * (root : Int) + 1)) (y := (first : Int) + (2 * (root : Int) + 1) + 1) (by omega) (by omega) (by omega) (by omega) HL.out
          clear hL
          go_wp2_with (go_at_fn g; refine hl1.mono ?_; rintro e w1 ⟨rfl, hb1⟩; have c2 := (hx2.below hb1).c0)
          clear hl1
          have hr3 := hr2.below hb1
          have hx3 := hx2.below hb1
          have hf3 := hf2.trans (Foot.ofBelow hb1 (fun g => g ≠ blk))
          cases hG : lt dk[first + root]! dk[first + (2 * root + 2)]!
          all_goals
            have HG := Lib.hid hG
            have hl2 := L.at_ hr3 (i := first + root) (j := first + (2 * root + 2)) (x := (first : Int) + (root : Int)) (y := (first : Int) + (2 * (root : Int) + 1 + 1)) (by omega) (by omega) (by omega) (by omega) HG.out
            clear hG
            go_at_fn g
            refine hl2.mono ?_
            rintro e w2 ⟨rfl, hb2⟩
            have hx4 := hx3.below hb2
            have c3 := hx4.c1
            have hr4 := hr3.below hb2
            have hf4 := hf3.trans (Foot.ofBelow hb2 (fun g => g ≠ blk))
            go_wp2
          · (try simp only [Exit.inBlock, Exit.then])
            refine bodyPost_ret (results_none rfl _ _ _) rfl ?_
            exact ⟨rfl, by rw [← HE.out, sd_right_stop lt dk h1 HL.out HG.out]; exact hr4, hf4⟩
          · rw [L.sw hr4 (i := first + root) (j := first + (2 * root + 2)) (x := (first : Int) + (root : Int)) (y := (first : Int) + (2 * (root : Int) + 1 + 1)) (by omega) (by omega) (by omega) (by omega), Oper.upon_value]
            go_wp2
            go_roundw
            case rel =>
              have hfs := foot_swapW (blk := blk) (off := off) w2 dk (first + root) (first + (2 * root + 2))
              exact ⟨2 * root + 2, swp dk (first + root) (first + (2 * root + 2)), by go_num, by omega, by rw [← HE.out, sd_right_go lt dk h1 HL.out HG.out], hr4.swap _ _ (by omega) (by omega), hx4.foot hfs hne, hf4.trans hfs⟩
            case measure => simp [intOf]; omega
      · have h1z : ¬ (2 * (root : Int) + 1 + 1 < (hi : Int)) := by omega
        cases hG : lt dk[first + root]! dk[first + (2 * root + 1)]!
        all_goals
          have HG := Lib.hid hG
          have hl2 := L.at_ hr2 (i := first + root) (j := first + (2 * root + 1)) (x := (first : Int) + (root : Int)) (y := (first : Int) + (2 * (root : Int) + 1)) (by omega) (by omega) (by omega) (by omega) HG.out
          clear hG
          go_wp2_with (go_at_fn g; refine hl2.mono ?_; rintro e w2 ⟨rfl, hb2⟩; have c3 := (hx2.below hb2).c1)
          have hx4 := hx2.below hb2
          have hr4 := hr2.below hb2
          have hf4 := hf2.trans (Foot.ofBelow hb2 (fun g => g ≠ blk))
        · (try simp only [Exit.inBlock, Exit.then])
          refine bodyPost_ret (results_none rfl _ _ _) rfl ?_
          exact ⟨rfl, by rw [← HE.out, sd_left_stop lt dk (by omega) (fun h => absurd h h1) HG.out]; exact hr4, hf4⟩
        · rw [L.sw hr4 (i := first + root) (j := first + (2 * root + 1)) (x := (first : Int) + (root : Int)) (y := (first : Int) + (2 * (root : Int) + 1)) (by omega) (by omega) (by omega) (by omega), Oper.upon_value]
          go_wp2
          go_roundw
          case rel =>
            have hfs := foot_swapW (blk := blk) (off := off) w2 dk (first + root) (first + (2 * root + 1))
            exact ⟨2 * root + 1, swp dk (first + root) (first + (2 * root + 1)), by go_num, by omega, by rw [← HE.out, sd_left_go lt dk (by omega) (fun h => absurd h h1) HG.out], hr4.swap _ _ (by omega) (by omega), hx4.foot hfs hne, hf4.trans hfs⟩
          case measure => simp [intOf]; omega

set_option maxHeartbeats 4000000 in
theorem heap_any (L : Ls w0 blk off n g lb sf sb lt) (W : World) (d : Array Hit) (hR : Rw w0 blk off n W d) (a b : Nat) (hab : a < b) (hb : b ≤ n) :
    Calls Tryz.prog 104 #[.agg #[.func (.func g) #[] lb, .func (.func sf) #[] sb], .int .i64 a, .int .i64 b] W fun e w' => e = .returned (.tuple #[]) ∧ SortLeaves w0 blk off n W (heapSort lt d a b) w' := by
  have hne : W.heap.size ≠ blk := by have := hR.ltW; omega
  have hbig := L.big
  have ecast : (b : Int) - (a : Int) = ((b - a : Nat) : Int) := by omega
  have hm : ∃ m, m = b - a := ⟨_, rfl⟩
  obtain ⟨m, hm⟩ := hm
  have HM := Lib.hid hm
  rw [← hm] at ecast
  have hm0 : 0 < m := by omega
  have hma : a + m ≤ n := by omega
  have hst : ((m : Int) - 1) / 2 = (((m - 1) / 2 + 1 : Nat) : Int) - 1 := by omega
  have HST := Lib.hid hst
  clear hm hst
  have EC := Lib.hid ecast
  clear ecast
  go_enter Tryz.func104, Tryz.ntmps104
  go_wp2
  rw [EC.out]
  go_wp2
  go_loopw [9] (fun s9 wr => ∃ (kx : Nat) (dk : Array Hit), s9 = .int .i64 ((kx : Int) - 1) ∧ kx ≤ (m - 1) / 2 + 1 ∧ heapBuild lt m a kx dk = heapBuild lt m a ((m - 1) / 2 + 1) d ∧ Rw w0 blk off n wr dk ∧ Bx wr W.heap.size g lb sf sb ∧ Foot W wr (fun g => g ≠ blk)) (fun s9 _ => (intOf s9 + 1).toNat)
  case atStart => exact ⟨(m - 1) / 2 + 1, d, by rw [HST.out], Nat.le_refl _, rfl, hR.alloc _, Bx.new _ _ _ _ _, (Foot.refl _ _).alloc _⟩
  case round =>
    obtain ⟨kx, dk, rfl, hkk, hE, hr2, hx2, hf2⟩ := hrel
    have HE := Lib.hid hE
    clear hE hR
    have c0 := hx2.c0
    have c1 := hx2.c1
    by_cases hk0 : kx < 1
    · have hk1 : (kx : Int) < 1 := by omega
      go_wp2
      go_loopw [10] (fun s10 wr2 => ∃ (kx : Nat) (dj : Array Hit), s10 = .int .i64 ((kx : Int) - 1) ∧ kx ≤ m ∧ heapPop lt a kx dj = heapPop lt a m dk ∧ Rw w0 blk off n wr2 dj ∧ Bx wr2 W.heap.size g lb sf sb ∧ Foot W wr2 (fun g => g ≠ blk)) (fun s10 _ => (intOf s10 + 1).toNat)
      case atStart => exact ⟨m, dk, rfl, Nat.le_refl _, rfl, hr2, hx2, hf2⟩
      case round =>
        clear hr2 hx2 hf2 c0 c1
        obtain ⟨ky, dj, rfl, hkk, hE2, hr2, hx2, hf2⟩ := hrel
        have HE2 := Lib.hid hE2
        clear hE2
        have c0 := hx2.c0
        have c1 := hx2.c1
        rcases ky with _ | ky
        · go_wp2
          go_end0
          have e : dj = heapSort lt d a b := by
            unfold heapSort
            rw [← HM.out, ← HE.out, show kx = 0 by omega]
            exact HE2.out
          exact ⟨rfl, by rw [← e]; exact hr2, hf2⟩
        · have hs := L.sw hr2 (i := a) (j := a + ky) (x := (a : Int)) (y := (a : Int) + (ky : Int)) (by omega) (by omega) rfl (by omega)
          have hfs := foot_swapW (blk := blk) (off := off) wr dj a (a + ky)
          have hr3 := hr2.swap a (a + ky) (by omega) (by omega)
          have hx3 := hx2.foot hfs hne
          have hf3 := hf2.trans hfs
          generalize swapW wr blk off dj a (a + ky) = w2 at hs hfs hr3 hx3 hf3
          have c2 := hx3.c0
          have c3 := hx3.c1
          go_wp2_with (go_at_call 116; refine (sift_any L w2 _ hr3 0 ky a (Nat.zero_le _) (by omega)).mono ?_; rintro e w3 ⟨rfl, hl3⟩)
          go_roundw
          case rel => exact ⟨ky, siftDown lt ky a 0 (swp dj a (a + ky)), by go_num, by omega, HE2.out, hl3.1, hx3.foot hl3.2 hne, hf3.trans hl3.2⟩
          case measure => first | (simp [intOf]; done) | (simp [intOf]; omega)
    · obtain ⟨q, rfl⟩ : ∃ q, kx = q + 1 := ⟨kx - 1, by omega⟩
      clear hk0
      go_wp2_with (go_at_call 116; refine (sift_any L _ _ hr2 q m a (by omega) (by omega)).mono ?_; rintro e w3 ⟨rfl, hl3⟩)
      go_roundw
      case rel => exact ⟨q, siftDown lt m a q dk, by go_num, by omega, HE.out, hl3.1, hx2.foot hl3.2 hne, hf2.trans hl3.2⟩
      case measure => first | (simp [intOf]; done) | (simp [intOf]; omega)
end
end Go.Proofs.YtfpikilhbkeajaaGreatDoor.SortHeap

namespace Go.Proofs.YtfpikilhbkeajaaGreatDoor.SortPart
set_option maxRecDepth 100000
open Go.Shelf Go.RowKit Go.Lib Go.Sort Go.PlainAid HitPlain Base HitBase SortBase

section
variable {w0 : World} {blk off n g sf : Nat} {lb sb : Array Value} {lt : Hit → Hit → Bool}

set_option maxRecDepth 100000 in
set_option maxHeartbeats 16000000 in
theorem part_any (L : Ls w0 blk off n g lb sf sb lt) (W : World) (d : Array Hit) (hR : Rw w0 blk off n W d) (a b pivot : Nat) (hap : a ≤ pivot) (hpb : pivot < b) (hb : b ≤ n) :
    Calls Tryz.prog 110 #[.agg #[.func (.func g) #[] lb, .func (.func sf) #[] sb], .int .i64 a, .int .i64 b, .int .i64 pivot] W fun e w' => e = .returned (.tuple #[.int .i64 (partition lt d a b pivot).1, .bool (partition lt d a b pivot).2.1]) ∧ SortLeaves w0 blk off n W (partition lt d a b pivot).2.2 w' := by
  have hne : W.heap.size ≠ blk := by have := hR.ltW; omega
  have hbig := L.big
  have eg := L.enter
  obtain ⟨j0, rfl⟩ : ∃ j0, b = j0 + 1 := ⟨b - 1, by omega⟩
  have hr0 := hR.alloc (.cells #[.func (.func g) #[] lb, .func (.func sf) #[] sb] 157)
  have hx0 := Bx.new W g lb sf sb
  have hf0 : Foot W (W.alloc (.cells #[.func (.func g) #[] lb, .func (.func sf) #[] sb] 157)) (fun g => g ≠ blk) := (Foot.refl _ _).alloc _
  have hs0 := L.sw hr0 (i := a) (j := pivot) (x := (a : Int)) (y := (pivot : Int)) (by omega) (by omega) rfl rfl
  have hfs := foot_swapW (blk := blk) (off := off) (W.alloc (.cells #[.func (.func g) #[] lb, .func (.func sf) #[] sb] 157)) d a pivot
  have hr1 := hr0.swap a pivot (by omega) (by omega)
  have hx1 := hx0.foot hfs hne
  have hf1 := hf0.trans hfs
  generalize swapW (W.alloc (.cells #[.func (.func g) #[] lb, .func (.func sf) #[] sb] 157)) blk off d a pivot = W1 at hs0 hr1 hx1 hf1
  obtain ⟨D, hD⟩ : ∃ D, D = swp d a pivot := ⟨_, rfl⟩
  have HD := Lib.hid hD
  rw [← hD] at hr1
  clear hfs hr0 hx0 hf0 hD hR
  rw [show ((j0 + 1 : Nat) : Int) = (j0 : Int) + 1 by omega]
  go_enter Tryz.func110, Tryz.ntmps110
  go_upto_block 0 with fail
  go_cut [10] from 21 to 32 (fun si wx => ∃ i2 : Nat, si = .int .i64 i2 ∧ i2 = scanUp (fun x => lt x D[a]!) D j0 (a + 1) ∧ a + 1 ≤ i2 ∧ i2 ≤ j0 + 1 ∧ (i2 ≤ j0 → lt D[i2]! D[a]! = false) ∧ Rw w0 blk off n wx D ∧ Bx wx W.heap.size g lb sf sb ∧ Foot W wx (fun g => g ≠ blk))
  case first =>
    go_wp2_with fail
    go_loopw [10] (fun si wr => ∃ i2 : Nat, si = .int .i64 i2 ∧ a + 1 ≤ i2 ∧ i2 ≤ j0 + 1 ∧ scanUp (fun x => lt x D[a]!) D j0 i2 = scanUp (fun x => lt x D[a]!) D j0 (a + 1) ∧ Rw w0 blk off n wr D ∧ Bx wr W.heap.size g lb sf sb ∧ Foot W wr (fun g => g ≠ blk)) (fun si _ => j0 + 1 - (intOf si).toNat)
    case atStart => exact ⟨a + 1, by go_num, Nat.le_refl _, by omega, rfl, hr1, hx1, hf1⟩
    case round =>
      obtain ⟨i2, rfl, h1, h2, hE, hr2, hx2, hf2⟩ := hrel
      have HE := Lib.hid hE
      clear hE hr1 hx1 hf1
      have c0 := hx2.c0
      by_cases hle : i2 ≤ j0
      · cases hlv : lt D[i2]! D[a]!
        all_goals
          have HLV := Lib.hid hlv
          clear hlv
        ·
          have hl := L.at_ hr2 (i := i2) (j := a) (x := (i2 : Int)) (y := (a : Int)) (by omega) (by omega) rfl rfl HLV.out
          go_wp2_with (go_at_fn g; refine hl.mono ?_; rintro e w1 ⟨rfl, hb1⟩)
          go_meet
          exact ⟨i2, rfl, HE.out.symm.trans (scanUp_end (fun x => lt x D[a]!) D j0 i2 (.inr (by simp [HLV.out]))) |>.symm, h1, h2, fun _ => HLV.out, hr2.below hb1, hx2.below hb1, hf2.trans (Foot.ofBelow hb1 _)⟩
        ·
          have hl := L.at_ hr2 (i := i2) (j := a) (x := (i2 : Int)) (y := (a : Int)) (by omega) (by omega) rfl rfl HLV.out
          go_wp2_with (go_at_fn g; refine hl.mono ?_; rintro e w1 ⟨rfl, hb1⟩)
          go_roundw
          case rel => exact ⟨i2 + 1, by go_num, by omega, by omega, (scanUp_go (fun x => lt x D[a]!) D j0 i2 hle (by simp [HLV.out])).symm.trans HE.out, hr2.below hb1, hx2.below hb1, hf2.trans (Foot.ofBelow hb1 _)⟩
          case measure => simp [intOf]; omega
      · go_wp2_with fail
        go_meet
        exact ⟨i2, rfl, (HE.out.symm.trans (scanUp_end (fun x => lt x D[a]!) D j0 i2 (.inl hle))).symm, h1, h2, fun h => absurd h hle, hr2, hx2, hf2⟩
  case rest =>
    clear hr1 hx1 hf1
    obtain ⟨i0, rfl, hsu, hi1, hi2, hst, hr, hx, hf⟩ := hcut
    have HSU := Lib.hid hsu
    clear hsu
    go_upto_block 2 with fail
    go_cut [11] from 33 to 45 (fun sj wx => ∃ j2 : Nat, sj = .int .i64 j2 ∧ j2 = scanDown (fun x => !lt x D[a]!) D i0 j0 ∧ j2 ≤ j0 ∧ i0 ≤ j2 + 1 ∧ (i0 ≤ j2 → lt D[j2]! D[a]! = true) ∧ Rw w0 blk off n wx D ∧ Bx wx W.heap.size g lb sf sb ∧ Foot W wx (fun g => g ≠ blk))
    case first =>
      go_wp2_with fail
      go_loopw [11] (fun sj wr => ∃ j2 : Nat, sj = .int .i64 j2 ∧ j2 ≤ j0 ∧ i0 ≤ j2 + 1 ∧ scanDown (fun x => !lt x D[a]!) D i0 j2 = scanDown (fun x => !lt x D[a]!) D i0 j0 ∧ Rw w0 blk off n wr D ∧ Bx wr W.heap.size g lb sf sb ∧ Foot W wr (fun g => g ≠ blk)) (fun sj _ => (intOf sj).toNat)
      case atStart => exact ⟨j0, rfl, Nat.le_refl _, by omega, rfl, hr, hx, hf⟩
      case round =>
        obtain ⟨j2, rfl, h1, h2, hE, hr2, hx2, hf2⟩ := hrel
        have HE := Lib.hid hE
        clear hE hr hx hf
        have c0 := hx2.c0
        by_cases hle : i0 ≤ j2
        · cases hlv : lt D[j2]! D[a]!
          all_goals
            have HLV := Lib.hid hlv
            clear hlv
          ·
            have hl := L.at_ hr2 (i := j2) (j := a) (x := (j2 : Int)) (y := (a : Int)) (by omega) (by omega) rfl rfl HLV.out
            go_wp2_with (go_at_fn g; refine hl.mono ?_; rintro e w1 ⟨rfl, hb1⟩)
            go_roundw
            case rel => exact ⟨j2 - 1, by congr 1; omega, by omega, by omega, (scanDown_go (fun x => !lt x D[a]!) D i0 j2 hle (by omega) (by simp [HLV.out])).symm.trans HE.out, hr2.below hb1, hx2.below hb1, hf2.trans (Foot.ofBelow hb1 _)⟩
            case measure => simp [intOf]; omega
          ·
            have hl := L.at_ hr2 (i := j2) (j := a) (x := (j2 : Int)) (y := (a : Int)) (by omega) (by omega) rfl rfl HLV.out
            go_wp2_with (go_at_fn g; refine hl.mono ?_; rintro e w1 ⟨rfl, hb1⟩)
            go_meet
            exact ⟨j2, rfl, HE.out.symm.trans (scanDown_end (fun x => !lt x D[a]!) D i0 j2 (.inr (by simp [HLV.out]))) |>.symm, h1, h2, fun _ => HLV.out, hr2.below hb1, hx2.below hb1, hf2.trans (Foot.ofBelow hb1 _)⟩
        · go_wp2_with fail
          go_meet
          exact ⟨j2, rfl, (HE.out.symm.trans (scanDown_end (fun x => !lt x D[a]!) D i0 j2 (.inl hle))).symm, h1, h2, fun h => absurd h hle, hr2, hx2, hf2⟩
    case rest =>
      clear hr hx hf
      obtain ⟨k0, rfl, hsd, hj1, hj2, hst2, hr, hx, hf⟩ := hcut
      have HSD := Lib.hid hsd
      clear hsd
      have c1 := hx.c1
      by_cases hgt : k0 < i0
      · have HEQ : Hid (partition lt d a (j0 + 1) pivot = (k0, true, swp D k0 a)) := Lib.hid (by
          unfold partition
          rw [← HD.out]
          simp only [Nat.add_sub_cancel]
          rw [← HSU.out, ← HSD.out, if_pos hgt])
        have hs := L.sw hr (i := k0) (j := a) (x := (k0 : Int)) (y := (a : Int)) (by omega) (by omega) rfl rfl
        have hfs := foot_swapW (blk := blk) (off := off) wc D k0 a
        have hr3 := hr.swap k0 a (by omega) (by omega)
        have hf3 := hf.trans hfs
        generalize swapW wc blk off D k0 a = W3 at hs hr3 hf3
        clear hfs hr hx hf hst hst2
        go_wp2_with fail
        go_ret2
        rw [HEQ.out]
        exact ⟨rfl, hr3, hf3⟩
      · have hlt3 : i0 < k0 := by
          rcases Nat.lt_or_ge i0 k0 with h | h
          · exact h
          · exfalso
            have e : i0 = k0 := by omega
            have h1 := hst (by omega)
            have h2 := hst2 (by omega)
            rw [e, h2] at h1
            cases h1
        clear hst hst2
        have HEQ : Hid (partition lt d a (j0 + 1) pivot = ((partLoop lt a (i0 + 1) (k0 - 1) (swp D i0 k0)).1, false, swp (partLoop lt a (i0 + 1) (k0 - 1) (swp D i0 k0)).2 (partLoop lt a (i0 + 1) (k0 - 1) (swp D i0 k0)).1 a)) := Lib.hid (by
          unfold partition
          rw [← HD.out]
          simp only [Nat.add_sub_cancel]
          rw [← HSU.out, ← HSD.out, if_neg hgt])
        have hs := L.sw hr (i := i0) (j := k0) (x := (i0 : Int)) (y := (k0 : Int)) (by omega) (by omega) rfl rfl
        have hfs := foot_swapW (blk := blk) (off := off) wc D i0 k0
        have hr3 := hr.swap i0 k0 (by omega) (by omega)
        have hx3 := hx.foot hfs hne
        have hf3 := hf.trans hfs
        generalize swapW wc blk off D i0 k0 = W3 at hs hr3 hx3 hf3
        clear hfs hr hx hf HSU HSD
        go_wp2_with fail
        go_loopw [10, 11] (fun vi vj wr => ∃ (i j : Nat) (dk : Array Hit), vi = .int .i64 i ∧ vj = .int .i64 j ∧ a < i ∧ i ≤ j + 1 ∧ j ≤ j0 ∧ partLoop lt a i j dk = partLoop lt a (i0 + 1) (k0 - 1) (swp D i0 k0) ∧ Rw w0 blk off n wr dk ∧ Bx wr W.heap.size g lb sf sb ∧ Foot W wr (fun g => g ≠ blk)) (fun vi vj _ => (intOf vj).toNat + 1 - (intOf vi).toNat)
        case atStart => exact ⟨i0 + 1, k0 - 1, _, by go_num, by congr 1; omega, by omega, by omega, by omega, rfl, hr3, hx3, hf3⟩
        case round =>
          obtain ⟨i, j, dk, rfl, rfl, hai, hij, hjb, hE0, hr, hx, hf⟩ := hrel
          have HE0 := Lib.hid hE0
          clear hE0 hr3 hx3 hf3 hs
          rename World => Wl
          go_upto_block 6 with fail
          go_cut [10] from 64 to 75 (fun si wx => ∃ i2 : Nat, si = .int .i64 i2 ∧ i2 = scanUp (fun x => lt x dk[a]!) dk j (i) ∧ i ≤ i2 ∧ i2 ≤ j + 1 ∧ (i2 ≤ j → lt dk[i2]! dk[a]! = false) ∧ Rw w0 blk off n wx dk ∧ Bx wx W.heap.size g lb sf sb ∧ Foot W wx (fun g => g ≠ blk))
          case first =>
            go_wp2_with fail
            go_loopw [10] (fun si wr => ∃ i2 : Nat, si = .int .i64 i2 ∧ i ≤ i2 ∧ i2 ≤ j + 1 ∧ scanUp (fun x => lt x dk[a]!) dk j i2 = scanUp (fun x => lt x dk[a]!) dk j (i) ∧ Rw w0 blk off n wr dk ∧ Bx wr W.heap.size g lb sf sb ∧ Foot W wr (fun g => g ≠ blk)) (fun si _ => j + 1 - (intOf si).toNat)
            case atStart => exact ⟨i, rfl, Nat.le_refl _, by omega, rfl, hr, hx, hf⟩
            case round =>
              obtain ⟨i2, rfl, h1, h2, hE, hr2, hx2, hf2⟩ := hrel
              have HE := Lib.hid hE
              clear hE hr hx hf
              have c0 := hx2.c0
              by_cases hle : i2 ≤ j
              · cases hlv : lt dk[i2]! dk[a]!
                all_goals
                  have HLV := Lib.hid hlv
                  clear hlv
                ·
                  have hl := L.at_ hr2 (i := i2) (j := a) (x := (i2 : Int)) (y := (a : Int)) (by omega) (by omega) rfl rfl HLV.out
                  go_wp2_with (go_at_fn g; refine hl.mono ?_; rintro e w1 ⟨rfl, hb1⟩)
                  go_meet
                  exact ⟨i2, rfl, HE.out.symm.trans (scanUp_end (fun x => lt x dk[a]!) dk j i2 (.inr (by simp [HLV.out]))) |>.symm, h1, h2, fun _ => HLV.out, hr2.below hb1, hx2.below hb1, hf2.trans (Foot.ofBelow hb1 _)⟩
                ·
                  have hl := L.at_ hr2 (i := i2) (j := a) (x := (i2 : Int)) (y := (a : Int)) (by omega) (by omega) rfl rfl HLV.out
                  go_wp2_with (go_at_fn g; refine hl.mono ?_; rintro e w1 ⟨rfl, hb1⟩)
                  go_roundw
                  case rel => exact ⟨i2 + 1, by go_num, by omega, by omega, (scanUp_go (fun x => lt x dk[a]!) dk j i2 hle (by simp [HLV.out])).symm.trans HE.out, hr2.below hb1, hx2.below hb1, hf2.trans (Foot.ofBelow hb1 _)⟩
                  case measure => simp [intOf]; omega
              · go_wp2_with fail
                go_meet
                exact ⟨i2, rfl, (HE.out.symm.trans (scanUp_end (fun x => lt x dk[a]!) dk j i2 (.inl hle))).symm, h1, h2, fun h => absurd h hle, hr2, hx2, hf2⟩
          case rest =>
            clear hr hx hf
            obtain ⟨i2, rfl, hsu, hi1, hi2, hst, hr, hx, hf⟩ := hcut
            have HSU := Lib.hid hsu
            clear hsu
            go_upto_block 8 with fail
            go_cut [11] from 76 to 88 (fun sj wx => ∃ j2 : Nat, sj = .int .i64 j2 ∧ j2 = scanDown (fun x => !lt x dk[a]!) dk i2 j ∧ j2 ≤ j ∧ i2 ≤ j2 + 1 ∧ (i2 ≤ j2 → lt dk[j2]! dk[a]! = true) ∧ Rw w0 blk off n wx dk ∧ Bx wx W.heap.size g lb sf sb ∧ Foot W wx (fun g => g ≠ blk))
            case first =>
              go_wp2_with fail
              go_loopw [11] (fun sj wr => ∃ j2 : Nat, sj = .int .i64 j2 ∧ j2 ≤ j ∧ i2 ≤ j2 + 1 ∧ scanDown (fun x => !lt x dk[a]!) dk i2 j2 = scanDown (fun x => !lt x dk[a]!) dk i2 j ∧ Rw w0 blk off n wr dk ∧ Bx wr W.heap.size g lb sf sb ∧ Foot W wr (fun g => g ≠ blk)) (fun sj _ => (intOf sj).toNat)
              case atStart => exact ⟨j, rfl, Nat.le_refl _, by omega, rfl, hr, hx, hf⟩
              case round =>
                obtain ⟨j2, rfl, h1, h2, hE, hr2, hx2, hf2⟩ := hrel
                have HE := Lib.hid hE
                clear hE hr hx hf
                have c0 := hx2.c0
                by_cases hle : i2 ≤ j2
                · cases hlv : lt dk[j2]! dk[a]!
                  all_goals
                    have HLV := Lib.hid hlv
                    clear hlv
                  ·
                    have hl := L.at_ hr2 (i := j2) (j := a) (x := (j2 : Int)) (y := (a : Int)) (by omega) (by omega) rfl rfl HLV.out
                    go_wp2_with (go_at_fn g; refine hl.mono ?_; rintro e w1 ⟨rfl, hb1⟩)
                    go_roundw
                    case rel => exact ⟨j2 - 1, by congr 1; omega, by omega, by omega, (scanDown_go (fun x => !lt x dk[a]!) dk i2 j2 hle (by omega) (by simp [HLV.out])).symm.trans HE.out, hr2.below hb1, hx2.below hb1, hf2.trans (Foot.ofBelow hb1 _)⟩
                    case measure => simp [intOf]; omega
                  ·
                    have hl := L.at_ hr2 (i := j2) (j := a) (x := (j2 : Int)) (y := (a : Int)) (by omega) (by omega) rfl rfl HLV.out
                    go_wp2_with (go_at_fn g; refine hl.mono ?_; rintro e w1 ⟨rfl, hb1⟩)
                    go_meet
                    exact ⟨j2, rfl, HE.out.symm.trans (scanDown_end (fun x => !lt x dk[a]!) dk i2 j2 (.inr (by simp [HLV.out]))) |>.symm, h1, h2, fun _ => HLV.out, hr2.below hb1, hx2.below hb1, hf2.trans (Foot.ofBelow hb1 _)⟩
                · go_wp2_with fail
                  go_meet
                  exact ⟨j2, rfl, (HE.out.symm.trans (scanDown_end (fun x => !lt x dk[a]!) dk i2 j2 (.inl hle))).symm, h1, h2, fun h => absurd h hle, hr2, hx2, hf2⟩
            case rest =>
              clear hr hx hf
              obtain ⟨j2, rfl, hsd, hj1, hj2, hst2, hr, hx, hf⟩ := hcut
              have HSD := Lib.hid hsd
              clear hsd
              have c1 := hx.c1
              by_cases hgt : j2 < i2
              · have e := part_break lt a i j dk HSU.out HSD.out hgt
                have HEQ2 : Hid (partition lt d a (j0 + 1) pivot = (j2, false, swp dk j2 a)) := Lib.hid (by rw [HEQ.out, ← HE0.out, e])
                clear e hst hst2
                have hs := L.sw hr (i := j2) (j := a) (x := (j2 : Int)) (y := (a : Int)) (by omega) (by omega) rfl rfl
                have hfs := foot_swapW (blk := blk) (off := off) wc dk j2 a
                have hr3 := hr.swap j2 a (by omega) (by omega)
                have hf3 := hf.trans hfs
                generalize swapW wc blk off dk j2 a = W4 at hs hr3 hf3
                clear hfs hr hx hf
                go_wp2_with fail
                go_ret2
                rw [HEQ2.out]
                exact ⟨rfl, hr3, hf3⟩
              · have hlt4 : i2 < j2 := by
                  rcases Nat.lt_or_ge i2 j2 with h | h
                  · exact h
                  · exfalso
                    have e : i2 = j2 := by omega
                    have h1 := hst (by omega)
                    have h2 := hst2 (by omega)
                    rw [e, h2] at h1
                    cases h1
                have e := part_go lt a i j dk HSU.out HSD.out (by omega)
                have HEQ2 : Hid (partLoop lt a (i2 + 1) (j2 - 1) (swp dk i2 j2) = partLoop lt a (i0 + 1) (k0 - 1) (swp D i0 k0)) := Lib.hid (e.symm.trans HE0.out)
                clear e hst hst2
                have hs := L.sw hr (i := i2) (j := j2) (x := (i2 : Int)) (y := (j2 : Int)) (by omega) (by omega) rfl rfl
                have hfs := foot_swapW (blk := blk) (off := off) wc dk i2 j2
                have hr3 := hr.swap i2 j2 (by omega) (by omega)
                have hx3 := hx.foot hfs hne
                have hf3 := hf.trans hfs
                generalize swapW wc blk off dk i2 j2 = W3 at hs hr3 hx3 hf3
                clear hfs hr hx hf
                go_wp2_with fail
                go_roundw
                case rel => exact ⟨i2 + 1, j2 - 1, swp dk i2 j2, by go_num, by congr 1; omega, by omega, by omega, by omega, HEQ2.out, hr3, hx3, hf3⟩
                case measure => simp [intOf]; omega
end
end Go.Proofs.YtfpikilhbkeajaaGreatDoor.SortPart

namespace Go.Proofs.YtfpikilhbkeajaaGreatDoor.SortPartE
set_option maxRecDepth 100000
open Go.Shelf Go.RowKit Go.Lib Go.Sort Go.PlainAid HitPlain Base HitBase SortBase

section
variable {w0 : World} {blk off n g sf : Nat} {lb sb : Array Value} {lt : Hit → Hit → Bool}

set_option maxRecDepth 100000 in
set_option maxHeartbeats 16000000 in
theorem partEq_any (L : Ls w0 blk off n g lb sf sb lt) (W : World) (d : Array Hit) (hR : Rw w0 blk off n W d) (a b pivot : Nat) (hap : a ≤ pivot) (hpb : pivot < b) (hb : b ≤ n) :
    Calls Tryz.prog 109 #[.agg #[.func (.func g) #[] lb, .func (.func sf) #[] sb], .int .i64 a, .int .i64 b, .int .i64 pivot] W fun e w' => e = .returned (.int .i64 (partitionEqual lt d a b pivot).1) ∧ SortLeaves w0 blk off n W (partitionEqual lt d a b pivot).2 w' := by
  have hne : W.heap.size ≠ blk := by have := hR.ltW; omega
  have hbig := L.big
  have eg := L.enter
  obtain ⟨j0, rfl⟩ : ∃ j0, b = j0 + 1 := ⟨b - 1, by omega⟩
  have hr0 := hR.alloc (.cells #[.func (.func g) #[] lb, .func (.func sf) #[] sb] 157)
  have hx0 := Bx.new W g lb sf sb
  have hf0 : Foot W (W.alloc (.cells #[.func (.func g) #[] lb, .func (.func sf) #[] sb] 157)) (fun g => g ≠ blk) := (Foot.refl _ _).alloc _
  have hs0 := L.sw hr0 (i := a) (j := pivot) (x := (a : Int)) (y := (pivot : Int)) (by omega) (by omega) rfl rfl
  have hfs := foot_swapW (blk := blk) (off := off) (W.alloc (.cells #[.func (.func g) #[] lb, .func (.func sf) #[] sb] 157)) d a pivot
  have hr1 := hr0.swap a pivot (by omega) (by omega)
  have hx1 := hx0.foot hfs hne
  have hf1 := hf0.trans hfs
  generalize swapW (W.alloc (.cells #[.func (.func g) #[] lb, .func (.func sf) #[] sb] 157)) blk off d a pivot = W1 at hs0 hr1 hx1 hf1
  obtain ⟨D, hD⟩ : ∃ D, D = swp d a pivot := ⟨_, rfl⟩
  have HD := Lib.hid hD
  rw [← hD] at hr1
  clear hfs hr0 hx0 hf0 hD hR
  rw [show ((j0 + 1 : Nat) : Int) = (j0 : Int) + 1 by omega]
  go_enter Tryz.func109, Tryz.ntmps109
  go_wp2_with fail
  clear hs0
  go_loopw [9, 10] (fun vi vj wr => ∃ (i j : Nat) (dk : Array Hit), vi = .int .i64 i ∧ vj = .int .i64 j ∧ a < i ∧ i ≤ j + 1 ∧ j ≤ j0 ∧ partEqLoop lt a i j dk = partEqLoop lt a (a + 1) j0 D ∧ Rw w0 blk off n wr dk ∧ Bx wr W.heap.size g lb sf sb ∧ Foot W wr (fun g => g ≠ blk)) (fun vi vj _ => (intOf vj).toNat + 1 - (intOf vi).toNat)
  case atStart => exact ⟨a + 1, j0, D, by go_num, by go_num, by omega, by omega, Nat.le_refl _, rfl, hr1, hx1, hf1⟩
  case round =>
    obtain ⟨i, j, dk, rfl, rfl, hai, hij, hjb, hE0, hr, hx, hf⟩ := hrel
    have HE0 := Lib.hid hE0
    clear hE0 hr1 hx1 hf1
    rename World => Wl
    go_upto_block 2 with fail
    go_cut [9] from 20 to 32 (fun si wx => ∃ i2 : Nat, si = .int .i64 i2 ∧ i2 = scanUp (fun x => !lt dk[a]! x) dk j (i) ∧ i ≤ i2 ∧ i2 ≤ j + 1 ∧ (i2 ≤ j → lt dk[a]! dk[i2]! = true) ∧ Rw w0 blk off n wx dk ∧ Bx wx W.heap.size g lb sf sb ∧ Foot W wx (fun g => g ≠ blk))
    case first =>
      go_wp2_with fail
      go_loopw [9] (fun si wr => ∃ i2 : Nat, si = .int .i64 i2 ∧ i ≤ i2 ∧ i2 ≤ j + 1 ∧ scanUp (fun x => !lt dk[a]! x) dk j i2 = scanUp (fun x => !lt dk[a]! x) dk j (i) ∧ Rw w0 blk off n wr dk ∧ Bx wr W.heap.size g lb sf sb ∧ Foot W wr (fun g => g ≠ blk)) (fun si _ => j + 1 - (intOf si).toNat)
      case atStart => exact ⟨i, rfl, Nat.le_refl _, by omega, rfl, hr, hx, hf⟩
      case round =>
        obtain ⟨i2, rfl, h1, h2, hE, hr2, hx2, hf2⟩ := hrel
        have HE := Lib.hid hE
        clear hE hr hx hf
        have c0 := hx2.c0
        by_cases hle : i2 ≤ j
        · cases hlv : lt dk[a]! dk[i2]!
          all_goals
            have HLV := Lib.hid hlv
            clear hlv
          ·
            have hl := L.at_ hr2 (i := a) (j := i2) (x := (a : Int)) (y := (i2 : Int)) (by omega) (by omega) rfl rfl HLV.out
            go_wp2_with (go_at_fn g; refine hl.mono ?_; rintro e w1 ⟨rfl, hb1⟩)
            go_roundw
            case rel => exact ⟨i2 + 1, by go_num, by omega, by omega, (scanUp_go (fun x => !lt dk[a]! x) dk j i2 hle (by simp [HLV.out])).symm.trans HE.out, hr2.below hb1, hx2.below hb1, hf2.trans (Foot.ofBelow hb1 _)⟩
            case measure => simp [intOf]; omega
          ·
            have hl := L.at_ hr2 (i := a) (j := i2) (x := (a : Int)) (y := (i2 : Int)) (by omega) (by omega) rfl rfl HLV.out
            go_wp2_with (go_at_fn g; refine hl.mono ?_; rintro e w1 ⟨rfl, hb1⟩)
            go_meet
            exact ⟨i2, rfl, HE.out.symm.trans (scanUp_end (fun x => !lt dk[a]! x) dk j i2 (.inr (by simp [HLV.out]))) |>.symm, h1, h2, fun _ => HLV.out, hr2.below hb1, hx2.below hb1, hf2.trans (Foot.ofBelow hb1 _)⟩
        · go_wp2_with fail
          go_meet
          exact ⟨i2, rfl, (HE.out.symm.trans (scanUp_end (fun x => !lt dk[a]! x) dk j i2 (.inl hle))).symm, h1, h2, fun h => absurd h hle, hr2, hx2, hf2⟩
    case rest =>
      clear hr hx hf
      obtain ⟨i2, rfl, hsu, hi1, hi2, hst, hr, hx, hf⟩ := hcut
      have HSU := Lib.hid hsu
      clear hsu
      go_upto_block 4 with fail
      go_cut [10] from 33 to 44 (fun sj wx => ∃ j2 : Nat, sj = .int .i64 j2 ∧ j2 = scanDown (fun x => lt dk[a]! x) dk i2 j ∧ j2 ≤ j ∧ i2 ≤ j2 + 1 ∧ (i2 ≤ j2 → lt dk[a]! dk[j2]! = false) ∧ Rw w0 blk off n wx dk ∧ Bx wx W.heap.size g lb sf sb ∧ Foot W wx (fun g => g ≠ blk))
      case first =>
        go_wp2_with fail
        go_loopw [10] (fun sj wr => ∃ j2 : Nat, sj = .int .i64 j2 ∧ j2 ≤ j ∧ i2 ≤ j2 + 1 ∧ scanDown (fun x => lt dk[a]! x) dk i2 j2 = scanDown (fun x => lt dk[a]! x) dk i2 j ∧ Rw w0 blk off n wr dk ∧ Bx wr W.heap.size g lb sf sb ∧ Foot W wr (fun g => g ≠ blk)) (fun sj _ => (intOf sj).toNat)
        case atStart => exact ⟨j, rfl, Nat.le_refl _, by omega, rfl, hr, hx, hf⟩
        case round =>
          obtain ⟨j2, rfl, h1, h2, hE, hr2, hx2, hf2⟩ := hrel
          have HE := Lib.hid hE
          clear hE hr hx hf
          have c0 := hx2.c0
          by_cases hle : i2 ≤ j2
          · cases hlv : lt dk[a]! dk[j2]!
            all_goals
              have HLV := Lib.hid hlv
              clear hlv
            ·
              have hl := L.at_ hr2 (i := a) (j := j2) (x := (a : Int)) (y := (j2 : Int)) (by omega) (by omega) rfl rfl HLV.out
              go_wp2_with (go_at_fn g; refine hl.mono ?_; rintro e w1 ⟨rfl, hb1⟩)
              go_meet
              exact ⟨j2, rfl, HE.out.symm.trans (scanDown_end (fun x => lt dk[a]! x) dk i2 j2 (.inr (by simp [HLV.out]))) |>.symm, h1, h2, fun _ => HLV.out, hr2.below hb1, hx2.below hb1, hf2.trans (Foot.ofBelow hb1 _)⟩
            ·
              have hl := L.at_ hr2 (i := a) (j := j2) (x := (a : Int)) (y := (j2 : Int)) (by omega) (by omega) rfl rfl HLV.out
              go_wp2_with (go_at_fn g; refine hl.mono ?_; rintro e w1 ⟨rfl, hb1⟩)
              go_roundw
              case rel => exact ⟨j2 - 1, by congr 1; omega, by omega, by omega, (scanDown_go (fun x => lt dk[a]! x) dk i2 j2 hle (by omega) (by simp [HLV.out])).symm.trans HE.out, hr2.below hb1, hx2.below hb1, hf2.trans (Foot.ofBelow hb1 _)⟩
              case measure => simp [intOf]; omega
          · go_wp2_with fail
            go_meet
            exact ⟨j2, rfl, (HE.out.symm.trans (scanDown_end (fun x => lt dk[a]! x) dk i2 j2 (.inl hle))).symm, h1, h2, fun h => absurd h hle, hr2, hx2, hf2⟩
      case rest =>
        clear hr hx hf
        obtain ⟨j2, rfl, hsd, hj1, hj2, hst2, hr, hx, hf⟩ := hcut
        have HSD := Lib.hid hsd
        clear hsd
        have c1 := hx.c1
        by_cases hgt : j2 < i2
        · have e := partEq_break lt a i j dk HSU.out HSD.out hgt
          have HEQ : Hid (partitionEqual lt d a (j0 + 1) pivot = (i2, dk)) := Lib.hid (by unfold partitionEqual; rw [← HD.out]; exact HE0.out.symm.trans e)
          clear e
          go_wp2_with fail
          go_ret
          rw [HEQ.out]
          exact ⟨rfl, hr, hf⟩
        · have hlt3 : i2 < j2 := by
            rcases Nat.lt_or_ge i2 j2 with h | h
            · exact h
            · exfalso
              have e : i2 = j2 := by omega
              have h1 := hst (by omega)
              have h2 := hst2 (by omega)
              rw [e, h2] at h1
              cases h1
          have e := partEq_go lt a i j dk HSU.out HSD.out (by omega)
          have HEQ : Hid (partEqLoop lt a (i2 + 1) (j2 - 1) (swp dk i2 j2) = partEqLoop lt a (a + 1) j0 D) := Lib.hid (e.symm.trans HE0.out)
          clear e hst hst2
          have hs := L.sw hr (i := i2) (j := j2) (x := (i2 : Int)) (y := (j2 : Int)) (by omega) (by omega) rfl rfl
          have hfs := foot_swapW (blk := blk) (off := off) wc dk i2 j2
          have hr3 := hr.swap i2 j2 (by omega) (by omega)
          have hx3 := hx.foot hfs hne
          have hf3 := hf.trans hfs
          generalize swapW wc blk off dk i2 j2 = W3 at hs hr3 hx3 hf3
          clear hfs hr hx hf
          go_wp2_with fail
          go_roundw
          case rel => exact ⟨i2 + 1, j2 - 1, swp dk i2 j2, by go_num, by congr 1; omega, by omega, by omega, by omega, HEQ.out, hr3, hx3, hf3⟩
          case measure => simp [intOf]; omega
end
end Go.Proofs.YtfpikilhbkeajaaGreatDoor.SortPartE

namespace Go.Proofs.YtfpikilhbkeajaaGreatDoor.SortPartial
set_option maxRecDepth 100000
open Go.Shelf Go.RowKit Go.Lib Go.Sort Go.PlainAid HitPlain Base HitBase SortBase

section
variable {w0 : World} {blk off n g sf : Nat} {lb sb : Array Value} {lt : Hit → Hit → Bool}

set_option maxRecDepth 100000 in
set_option maxHeartbeats 16000000 in
theorem partial_any (L : Ls w0 blk off n g lb sf sb lt) (W : World) (d : Array Hit) (hR : Rw w0 blk off n W d) (a b : Nat) (hab : a < b) (hb : b ≤ n) :
    Calls Tryz.prog 108 #[.agg #[.func (.func g) #[] lb, .func (.func sf) #[] sb], .int .i64 a, .int .i64 b] W fun e w' => e = .returned (.bool (partialInsertionSort lt d a b).2) ∧ SortLeaves w0 blk off n W (partialInsertionSort lt d a b).1 w' := by
  have hne : W.heap.size ≠ blk := by have := hR.ltW; omega
  have hbig := L.big
  have eg := L.enter
  go_enter Tryz.func108, Tryz.ntmps108
  go_wp2_with fail
  go_loopw [7, 8] (fun vi vs wr => ∃ (i s : Nat) (dk : Array Hit), vi = .int .i64 i ∧ vs = .int .i64 s ∧ s ≤ 5 ∧ a < i ∧ i ≤ b ∧ partialIns lt a b (5 - s) i dk = partialIns lt a b 5 (a + 1) d ∧ Rw w0 blk off n wr dk ∧ Bx wr W.heap.size g lb sf sb ∧ Foot W wr (fun g => g ≠ blk)) (fun _ vs _ => 5 - (intOf vs).toNat)
  case atStart => exact ⟨a + 1, 0, d, by go_num, rfl, by omega, by omega, by omega, rfl, hR.alloc _, Bx.new _ _ _ _ _, (Foot.refl _ _).alloc _⟩
  case round =>
    obtain ⟨i, s, dk, rfl, rfl, hs5, hai, hib, hO, hr, hx, hf⟩ := hrel
    have HO := Lib.hid hO
    clear hO hR
    by_cases hs : s < 5
    · have hsz : (s : Int) < 5 := by omega
      have hsd : decide ((s : Int) < 5) = true := by simp; omega
      go_upto_block 2 with fail
      go_cut [7] from 17 to 30 (fun vi wx => ∃ kx : Nat, vi = .int .i64 kx ∧ i ≤ kx ∧ kx ≤ b ∧ scanSorted lt dk b i = kx ∧ Rw w0 blk off n wx dk ∧ Bx wx W.heap.size g lb sf sb ∧ Foot W wx (fun g => g ≠ blk))
      case first =>
        go_wp2_with fail
        go_loopw [7] (fun vi wr2 => ∃ kx : Nat, vi = .int .i64 kx ∧ i ≤ kx ∧ kx ≤ b ∧ scanSorted lt dk b kx = scanSorted lt dk b i ∧ Rw w0 blk off n wr2 dk ∧ Bx wr2 W.heap.size g lb sf sb ∧ Foot W wr2 (fun g => g ≠ blk)) (fun vi _ => b - (intOf vi).toNat)
        case atStart => exact ⟨i, rfl, Nat.le_refl _, hib, rfl, hr, hx, hf⟩
        case round =>
          obtain ⟨kx, rfl, h1, h2, hE, hr2, hx2, hf2⟩ := hrel
          have HE := Lib.hid hE
          clear hE hr hx hf
          have c0 := hx2.c0
          by_cases hlt : kx < b
          · cases hlv : lt dk[kx]! dk[kx - 1]!
            all_goals
              have HLV := Lib.hid hlv
              clear hlv
              have hl := L.at_ hr2 (i := kx) (j := kx - 1) (x := (kx : Int)) (y := (kx : Int) - 1) (by omega) (by omega) rfl (by omega) HLV.out
              go_wp2_with (go_at_fn g; refine hl.mono ?_; rintro e w1 ⟨rfl, hb1⟩)
            · go_roundw
              case rel => exact ⟨kx + 1, by go_num, by omega, by omega, (scanSorted_go lt dk b kx hlt HLV.out).symm.trans HE.out, hr2.below hb1, hx2.below hb1, hf2.trans (Foot.ofBelow hb1 _)⟩
              case measure => simp [intOf]; omega
            · go_meet
              exact ⟨kx, rfl, h1, h2, HE.out.symm.trans (scanSorted_stop lt dk b kx (.inr HLV.out)), hr2.below hb1, hx2.below hb1, hf2.trans (Foot.ofBelow hb1 _)⟩
          · go_wp2_with fail
            go_meet
            exact ⟨kx, rfl, h1, h2, HE.out.symm.trans (scanSorted_stop lt dk b kx (.inl hlt)), hr2, hx2, hf2⟩
      case rest =>
        clear hr hx hf
        obtain ⟨kx, rfl, hik, hkb, hK, hr, hx, hf⟩ := hcut
        have HK := Lib.hid hK
        clear hK
        have c1 := hx.c1
        by_cases hkb' : kx < b
        · have hkne : ((kx : Int) == (b : Int)) = false := beq_eq_false_iff_ne.2 (by omega)
          by_cases h50 : b - a < 50
          · have h50z : (b : Int) - (a : Int) < 50 := by omega
            have HV : Hid (partialInsertionSort lt d a b = (dk, false)) := Lib.hid (by unfold partialInsertionSort; rw [← HO.out, pi_short lt a b s i dk hs (by rw [HK.out]; omega) h50])
            go_wp2_with fail
            go_ret
            rw [HV.out]
            exact ⟨rfl, hr, hf⟩
          · have h50z : ¬ ((b : Int) - (a : Int) < 50) := by omega
            have HGO := Lib.hid (pi_go lt a b s i kx dk hs HK.out (by omega) h50)
            have hsw := L.sw hr (i := kx) (j := kx - 1) (x := (kx : Int)) (y := (kx : Int) - 1) (by omega) (by omega) rfl (by omega)
            have hfs := foot_swapW (blk := blk) (off := off) wc dk kx (kx - 1)
            have hr3 := hr.swap kx (kx - 1) (by omega) (by omega)
            have hx3 := hx.foot hfs hne
            have hf3 := hf.trans hfs
            generalize swapW wc blk off dk kx (kx - 1) = W3 at hsw hr3 hx3 hf3
            obtain ⟨D, hD⟩ : ∃ D, D = swp dk kx (kx - 1) := ⟨_, rfl⟩
            rw [← hD] at hr3 HGO
            have HD := Lib.hid hD
            clear hfs hr hx hf hD
            go_upto_if 47 with fail
            clear hsw
            go_cut [9, 47] from 48 to 66 (fun _ _ wx => Rw w0 blk off n wx (fixDown lt a kx D) ∧ Bx wx W.heap.size g lb sf sb ∧ Foot W wx (fun g => g ≠ blk))
            case first =>
              by_cases hka : kx - a ≥ 2
              · have hkaz : (2 : Int) ≤ (kx : Int) - (a : Int) := by omega
                have HF : Hid (fixDown lt a kx D = shiftDown lt (kx - 1) D) := Lib.hid (by unfold fixDown; rw [if_pos hka])
                go_wp2_with fail
                go_loopw [9] (fun vj wr3 => ∃ (j : Nat) (dj : Array Hit), vj = .int .i64 j ∧ j ≤ kx - 1 ∧ shiftDown lt j dj = shiftDown lt (kx - 1) D ∧ Rw w0 blk off n wr3 dj ∧ Bx wr3 W.heap.size g lb sf sb ∧ Foot W wr3 (fun g => g ≠ blk)) (fun vj _ => (intOf vj).toNat)
                case atStart => exact ⟨kx - 1, D, by congr 1; omega, Nat.le_refl _, rfl, hr3, hx3, hf3⟩
                case round =>
                  obtain ⟨j, dj, rfl, hjk, hE, hr4, hx4, hf4⟩ := hrel
                  have HE := Lib.hid hE
                  clear hE hr3 hx3 hf3
                  have c0 := hx4.c0
                  by_cases hj1 : 1 ≤ j
                  · cases hlv : lt dj[j]! dj[j - 1]!
                    all_goals
                      have HLV := Lib.hid hlv
                      clear hlv
                      have hl := L.at_ hr4 (i := j) (j := j - 1) (x := (j : Int)) (y := (j : Int) - 1) (by omega) (by omega) rfl (by omega) HLV.out
                    · go_wp2_with (go_at_fn g; refine hl.mono ?_; rintro e w1 ⟨rfl, hb1⟩)
                      go_meet
                      exact ⟨by rw [HF.out, ← HE.out, shiftDown_stop lt j dj (.inr HLV.out)]; exact hr4.below hb1, hx4.below hb1, hf4.trans (Foot.ofBelow hb1 _)⟩
                    · go_wp2_with (go_at_fn g; refine hl.mono ?_; rintro e w1 ⟨rfl, hb1⟩; have c3 := (hx4.below hb1).c1)
                      have hr5 := hr4.below hb1
                      rw [L.sw hr5 (i := j) (j := j - 1) (x := (j : Int)) (y := (j : Int) - 1) (by omega) (by omega) rfl (by omega), Oper.upon_value]
                      have hfs := foot_swapW (blk := blk) (off := off) w1 dj j (j - 1)
                      go_wp2_with fail
                      go_roundw
                      case rel => exact ⟨j - 1, swp dj j (j - 1), by congr 1; omega, by omega, by rw [← HE.out, shiftDown_go lt j dj hj1 HLV.out], hr5.swap _ _ (by omega) (by omega), (hx4.below hb1).foot hfs hne, (hf4.trans (Foot.ofBelow hb1 _)).trans hfs⟩
                      case measure => simp [intOf]; omega
                  · go_wp2_with fail
                    go_meet
                    exact ⟨by rw [HF.out, ← HE.out, shiftDown_stop lt j dj (.inl (by omega))]; exact hr4, hx4, hf4⟩
              · have hkaz : ¬ (2 : Int) ≤ (kx : Int) - (a : Int) := by omega
                go_wp2_with fail
                go_meet
                exact ⟨by unfold fixDown; rw [if_neg hka]; exact hr3, hx3, hf3⟩
            case rest =>
              clear hr3 hx3 hf3
              obtain ⟨hr3, hx3, hf3⟩ := hcut
              obtain ⟨D2, hD2⟩ : ∃ D2, D2 = fixDown lt a kx D := ⟨_, rfl⟩
              rw [← hD2] at hr3 HGO
              clear hD2
              by_cases hbk : b - kx ≥ 2
              · have hbkz : (2 : Int) ≤ (b : Int) - (kx : Int) := by omega
                have HF : Hid (fixUp lt b kx D2 = shiftUp lt b (kx + 1) D2) := Lib.hid (by unfold fixUp; rw [if_pos hbk])
                go_wp2_with fail
                go_loopw [10] (fun vj wr4 => ∃ (j : Nat) (dj : Array Hit), vj = .int .i64 j ∧ kx + 1 ≤ j ∧ j ≤ b ∧ shiftUp lt b j dj = shiftUp lt b (kx + 1) D2 ∧ Rw w0 blk off n wr4 dj ∧ Bx wr4 W.heap.size g lb sf sb ∧ Foot W wr4 (fun g => g ≠ blk)) (fun vj _ => b - (intOf vj).toNat)
                case atStart => exact ⟨kx + 1, D2, by go_num, Nat.le_refl _, by omega, rfl, hr3, hx3, hf3⟩
                case round =>
                  obtain ⟨j, dj, rfl, hkj, hjb, hE, hr4, hx4, hf4⟩ := hrel
                  have HE := Lib.hid hE
                  clear hE hr3 hx3 hf3
                  have c0 := hx4.c0
                  by_cases hj1 : j < b
                  · cases hlv : lt dj[j]! dj[j - 1]!
                    all_goals
                      have HLV := Lib.hid hlv
                      clear hlv
                      have hl := L.at_ hr4 (i := j) (j := j - 1) (x := (j : Int)) (y := (j : Int) - 1) (by omega) (by omega) rfl (by omega) HLV.out
                    · go_wp2_with (go_at_fn g; refine hl.mono ?_; rintro e w1 ⟨rfl, hb1⟩)
                      go_roundw
                      case rel => exact ⟨kx, s + 1, dj, rfl, by go_num, by omega, by omega, by omega, by rw [← HO.out, HGO.out, HF.out, ← HE.out, shiftUp_stop lt b j dj (.inr HLV.out)], hr4.below hb1, hx4.below hb1, hf4.trans (Foot.ofBelow hb1 _)⟩
                      case measure => simp [intOf]; omega
                    · go_wp2_with (go_at_fn g; refine hl.mono ?_; rintro e w1 ⟨rfl, hb1⟩; have c3 := (hx4.below hb1).c1)
                      have hr5 := hr4.below hb1
                      rw [L.sw hr5 (i := j) (j := j - 1) (x := (j : Int)) (y := (j : Int) - 1) (by omega) (by omega) rfl (by omega), Oper.upon_value]
                      have hfs := foot_swapW (blk := blk) (off := off) w1 dj j (j - 1)
                      go_wp2_with fail
                      go_roundw
                      case rel => exact ⟨j + 1, swp dj j (j - 1), by go_num, by omega, by omega, by rw [← HE.out, shiftUp_go lt b j dj hj1 HLV.out], hr5.swap _ _ (by omega) (by omega), (hx4.below hb1).foot hfs hne, (hf4.trans (Foot.ofBelow hb1 _)).trans hfs⟩
                      case measure => simp [intOf]; omega
                  · go_wp2_with fail
                    go_roundw
                    case rel => exact ⟨kx, s + 1, dj, rfl, by go_num, by omega, by omega, by omega, by rw [← HO.out, HGO.out, HF.out, ← HE.out, shiftUp_stop lt b j dj (.inl hj1)], hr4, hx4, hf4⟩
                    case measure => simp [intOf]; omega
              · have hbkz : ¬ (2 : Int) ≤ (b : Int) - (kx : Int) := by omega
                go_wp2_with fail
                go_roundw
                case rel => exact ⟨kx, s + 1, D2, rfl, by go_num, by omega, by omega, by omega, by rw [← HO.out, HGO.out]; unfold fixUp; rw [if_neg hbk], hr3, hx3, hf3⟩
                case measure => simp [intOf]; omega
        · obtain rfl : kx = b := by omega
          have HV : Hid (partialInsertionSort lt d a kx = (dk, true)) := Lib.hid (by unfold partialInsertionSort; rw [← HO.out, pi_true lt a kx s i dk hs HK.out])
          go_wp2_with fail
          go_ret
          rw [HV.out]
          exact ⟨rfl, hr, hf⟩
    · obtain rfl : s = 5 := by omega
      have HV : Hid (partialInsertionSort lt d a b = (dk, false)) := Lib.hid (by unfold partialInsertionSort; rw [← HO.out, pi_end])
      go_wp2_with fail
      go_ret
      rw [HV.out]
      exact ⟨rfl, hr, hf⟩
end
end Go.Proofs.YtfpikilhbkeajaaGreatDoor.SortPartial

namespace Go.Proofs.YtfpikilhbkeajaaGreatDoor.SortPivot
set_option maxRecDepth 100000
open Go.Shelf Go.RowKit Go.Lib Go.Sort Go.PlainAid HitPlain Base HitBase SortBase

theorem ret2 {a b c d : Int} (h : a = c) (k : b = d) : Ending.returned (.tuple #[.int .i64 a, .int .i64 b]) = .returned (.tuple #[.int .i64 c, .int .i64 d]) := by rw [h, k]
theorem ret1 {a c : Int} (h : a = c) : Ending.returned (.int .i64 a) = .returned (.int .i64 c) := by rw [h]

section
variable {w0 : World} {blk off n g sf : Nat} {lb sb : Array Value} {lt : Hit → Hit → Bool}

structure Ct (w0 : World) (blk cb : Nat) (W : World) (s : Nat) : Prop where
  own : Blk W cb 3 #[.int .i64 s]
  ne : cb ≠ blk
  new : w0.heap.size ≤ cb
theorem Ct.below {cb s : Nat} {W W' : World} (h : Ct w0 blk cb W s) (hb : Below W.heap.size W W') : Ct w0 blk cb W' s := ⟨h.own.below hb h.own.lt, h.ne, h.new⟩
theorem Ct.set_ {cb s : Nat} {W : World} (h : Ct w0 blk cb W s) (t : Nat) : Ct w0 blk cb (W.setCell ⟨cb, 0, none⟩ (.int .i64 t)) t := ⟨h.own.set_ 0 _, h.ne, h.new⟩
theorem Rw.setFar {W : World} {d : Array Hit} {cb : Nat} (h : Rw w0 blk off n W d) (hc : cb ≠ blk) (hn : w0.heap.size ≤ cb) (v : Value) : Rw w0 blk off n (W.setCell ⟨cb, 0, none⟩ v) d :=
  ⟨holdsK_block h.holds (Below.heap_setCell W ⟨cb, 0, none⟩ v blk (Ne.symm hc)), h.size, h.lt, h.foot.set_ (p := ⟨cb, 0, none⟩) (fun hl => absurd hl (Nat.not_lt.2 hn)) _, h.shape.same (Below.heap_setCell W ⟨cb, 0, none⟩ v blk (Ne.symm hc))⟩

def Counts (w0 : World) (blk off n cb : Nat) (W : World) (d : Array Hit) (s : Nat) (w' : World) : Prop :=
  Rw w0 blk off n w' d ∧ Ct w0 blk cb w' s ∧ Foot W w' (fun g => g ≠ cb)

theorem order2_t {d : Array Hit} {a b s : Nat} (h : lt d[b]! d[a]! = true) : order2 lt d a b s = (b, a, s + 1) := by unfold order2; rw [if_pos h]
theorem order2_f {d : Array Hit} {a b s : Nat} (h : lt d[b]! d[a]! = false) : order2 lt d a b s = (a, b, s) := by unfold order2; rw [if_neg (by rw [h]; decide)]

set_option maxHeartbeats 2000000 in
theorem order2_any (L : Ls w0 blk off n g lb sf sb lt) (W : World) (d : Array Hit) (hR : Rw w0 blk off n W d) (a b cb s : Nat) (ha : a < n) (hb : b < n) (hs : s ≤ 1000) (hC : Ct w0 blk cb W s) :
    Calls Tryz.prog 123 #[.agg #[.func (.func g) #[] lb, .func (.func sf) #[] sb], .int .i64 a, .int .i64 b, .pointer (some ⟨cb, 0, none⟩)] W fun e w' =>
      e = .returned (.tuple #[.int .i64 (order2 lt d a b s).1, .int .i64 (order2 lt d a b s).2.1]) ∧ Counts w0 blk off n cb W d (order2 lt d a b s).2.2 w' := by
  have hbig := L.big
  have eg := L.enter
  have hb0 : Below W.heap.size W (W.alloc (.cells #[.func (.func g) #[] lb, .func (.func sf) #[] sb] 157)) := (Below.refl _ _).alloc (Nat.le_refl _) _
  have hr0 := hR.below hb0
  have hc0 := hC.below hb0
  cases hlv : lt d[b]! d[a]!
  · have HO := Lib.hid (order2_f (s := s) hlv)
    have hl := L.at_ hr0 (i := b) (j := a) (x := (b : Int)) (y := (a : Int)) hb ha rfl rfl hlv
    clear hlv
    go_enter Tryz.func123, Tryz.ntmps123
    go_wp2_with (go_at_fn g; refine hl.mono ?_; rintro e w1 ⟨rfl, hb1⟩)
    go_ret2
    rw [HO.out]
    exact ⟨rfl, hr0.below hb1, hc0.below hb1, Foot.ofBelow (bchain hb0 hb1) _⟩
  · have HO := Lib.hid (order2_t (s := s) hlv)
    have hl := L.at_ hr0 (i := b) (j := a) (x := (b : Int)) (y := (a : Int)) hb ha rfl rfl hlv
    clear hlv
    go_enter Tryz.func123, Tryz.ntmps123
    go_wp2_with (go_at_fn g; refine hl.mono ?_; rintro e w1 ⟨rfl, hb1⟩; have q1 : w1.cell? ⟨cb, 0, none⟩ = some (.int .i64 s) := (hc0.below hb1).own.cell 0; have q2 := (hc0.below hb1).own.frozen 0)
    go_ret2
    rw [HO.out]
    have hc1 := hc0.below hb1
    exact ⟨rfl, Rw.setFar (hr0.below hb1) hc1.ne hc1.new _, by have := hc1.set_ (s + 1); simpa using this, (Foot.ofBelow (bchain hb0 hb1) _).set_ (p := ⟨cb, 0, none⟩) (fun _ h => h rfl) _⟩

theorem Counts.trans {W W' W'' : World} {d : Array Hit} {cb t : Nat} (h : Foot W W' (fun g => g ≠ cb)) (k : Counts w0 blk off n cb W' d t W'') : Counts w0 blk off n cb W d t W'' := ⟨k.1, k.2.1, h.trans k.2.2⟩

set_option maxRecDepth 100000 in
set_option maxHeartbeats 4000000 in
theorem median_any (L : Ls w0 blk off n g lb sf sb lt) (W : World) (d : Array Hit) (hR : Rw w0 blk off n W d) (a b c cb s : Nat) (ha : a < n) (hb : b < n) (hc : c < n) (hs : s ≤ 900) (hC : Ct w0 blk cb W s) :
    Calls Tryz.prog 120 #[.agg #[.func (.func g) #[] lb, .func (.func sf) #[] sb], .int .i64 a, .int .i64 b, .int .i64 c, .pointer (some ⟨cb, 0, none⟩)] W fun e w' =>
      e = .returned (.int .i64 (median lt d a b c s).1) ∧ Counts w0 blk off n cb W d (median lt d a b c s).2 w' := by
  have hb0 : Below W.heap.size W (W.alloc (.cells #[.func (.func g) #[] lb, .func (.func sf) #[] sb] 157)) := (Below.refl _ _).alloc (Nat.le_refl _) _
  have hr0 := hR.below hb0
  have hc0 := hC.below hb0
  have hx0 := Bx.new W g lb sf sb
  have hne : W.heap.size ≠ cb := by have := hC.own.lt; omega
  obtain ⟨x1, y1, s1, h1⟩ : ∃ x1 y1 s1, order2 lt d a b s = (x1, y1, s1) := ⟨_, _, _, rfl⟩
  obtain ⟨x2, y2, s2, h2⟩ : ∃ x2 y2 s2, order2 lt d y1 c s1 = (x2, y2, s2) := ⟨_, _, _, rfl⟩
  obtain ⟨x3, y3, s3, h3⟩ : ∃ x3 y3 s3, order2 lt d x1 x2 s2 = (x3, y3, s3) := ⟨_, _, _, rfl⟩
  have m1 := order2_mem lt d a b s
  have m2 := order2_mem lt d y1 c s1
  have n1 := order2_count lt d a b s
  have n2 := order2_count lt d y1 c s1
  rw [h1] at m1 n1
  rw [h2] at m2 n2
  simp only at m1 m2 n1 n2
  have HM : Hid (median lt d a b c s = (y3, s3)) := Lib.hid (by unfold median; simp only [h1, h2, h3])
  have k1 := order2_any L _ d hr0 a b cb s ha hb (by omega) hc0
  rw [h1] at k1
  have k2 := fun W' (hr : Rw w0 blk off n W' d) (hq : Ct w0 blk cb W' s1) => order2_any L W' d hr y1 c cb s1 (by omega) hc (by omega) hq
  rw [h2] at k2
  have k3 := fun W' (hr : Rw w0 blk off n W' d) (hq : Ct w0 blk cb W' s2) => order2_any L W' d hr x1 x2 cb s2 (by omega) (by omega) (by omega) hq
  rw [h3] at k3
  have K1 := Lib.hid k1
  have K2 := Lib.hid k2
  have K3 := Lib.hid k3
  clear k1 k2 k3 h1 h2 h3 m1 m2 n1 n2
  go_enter Tryz.func120, Tryz.ntmps120
  go_wp2_with fail
  go_at_call 123
  refine K1.out.mono ?_
  rintro e w1 ⟨rfl, hr1, hc1, hf1⟩
  have hx1 := hx0.foot hf1 hne
  have p0 := hx1.c0
  have p1 := hx1.c1
  go_wp2_with fail
  go_at_call 123
  refine (K2.out _ hr1 hc1).mono ?_
  rintro e w2 ⟨rfl, hr2, hc2, hf2⟩
  have hx2 := hx1.foot hf2 hne
  have p2 := hx2.c0
  have p3 := hx2.c1
  go_wp2_with fail
  go_at_call 123
  refine (K3.out _ hr2 hc2).mono ?_
  rintro e w3 ⟨rfl, hr3, hc3, hf3⟩
  go_wp2_with fail
  go_ret
  rw [HM.out]
  exact ⟨rfl, hr3, hc3, (((Foot.ofBelow hb0 _).trans hf1).trans hf2).trans hf3⟩

set_option maxHeartbeats 2000000 in
theorem adjacent_any (L : Ls w0 blk off n g lb sf sb lt) (W : World) (d : Array Hit) (hR : Rw w0 blk off n W d) (a cb s : Nat) (ha : 1 ≤ a) (hb : a + 1 < n) (hs : s ≤ 900) (hC : Ct w0 blk cb W s) :
    Calls Tryz.prog 119 #[.agg #[.func (.func g) #[] lb, .func (.func sf) #[] sb], .int .i64 a, .pointer (some ⟨cb, 0, none⟩)] W fun e w' =>
      e = .returned (.int .i64 (medianAdjacent lt d a s).1) ∧ Counts w0 blk off n cb W d (medianAdjacent lt d a s).2 w' := by
  have hb0 : Below W.heap.size W (W.alloc (.cells #[.func (.func g) #[] lb, .func (.func sf) #[] sb] 157)) := (Below.refl _ _).alloc (Nat.le_refl _) _
  have hbig := L.big
  have k1 := median_any L _ d (hR.below hb0) (a - 1) a (a + 1) cb s (by omega) (by omega) hb hs (hC.below hb0)
  rw [show ((a - 1 : Nat) : Int) = (a : Int) - 1 by omega, show ((a + 1 : Nat) : Int) = (a : Int) + 1 by omega] at k1
  have K1 := Lib.hid k1
  clear k1
  go_enter Tryz.func119, Tryz.ntmps119
  go_wp2_with fail
  go_at_call 120
  refine K1.out.mono ?_
  rintro e w1 ⟨rfl, hl⟩
  go_wp2_with fail
  go_ret
  exact ⟨rfl, Counts.trans (Foot.ofBelow hb0 _) hl⟩

theorem hint0 : hintCode (hintOf 0) = 1 := rfl
theorem hint12 : hintCode (hintOf 12) = 2 := rfl
theorem hintx {s : Nat} (h1 : s ≠ 0) (h2 : s ≠ 12) : hintCode (hintOf s) = 0 := by unfold hintOf; rw [if_neg h1, if_neg h2]; rfl
theorem hintWays (s : Nat) : (s = 0 ∧ hintCode (hintOf s) = 1) ∨ (s = 12 ∧ hintCode (hintOf s) = 2) ∨ (((s : Int) == 0) = false ∧ ((s : Int) == 12) = false ∧ hintCode (hintOf s) = 0) := by
  by_cases h1 : s = 0
  · subst h1; exact .inl ⟨rfl, rfl⟩
  · by_cases h2 : s = 12
    · subst h2; exact .inr (.inl ⟨rfl, rfl⟩)
    · exact .inr (.inr ⟨beq_eq_false_iff_ne.2 (by omega), beq_eq_false_iff_ne.2 (by omega), hintx h1 h2⟩)

set_option maxRecDepth 100000 in
set_option maxHeartbeats 8000000 in
theorem pivot_any (L : Ls w0 blk off n g lb sf sb lt) (W : World) (d : Array Hit) (hR : Rw w0 blk off n W d) (a b : Nat) (hab : a < b) (hb : b ≤ n) :
    Calls Tryz.prog 106 #[.agg #[.func (.func g) #[] lb, .func (.func sf) #[] sb], .int .i64 a, .int .i64 b] W fun e w' =>
      e = .returned (.tuple #[.int .i64 (choosePivot lt d a b).1, .int .i64 (hintCode (choosePivot lt d a b).2)]) ∧ SortLeaves w0 blk off n W d w' := by
  have hbig := L.big
  have hlt := hR.ltW
  have hb0 : Below W.heap.size W (W.alloc (.cells #[.func (.func g) #[] lb, .func (.func sf) #[] sb] 157)) := (Below.refl _ _).alloc (Nat.le_refl _) _
  have hx0 := Bx.new W g lb sf sb
  generalize hWa : W.alloc (.cells #[.func (.func g) #[] lb, .func (.func sf) #[] sb] 157) = Wa at hb0 hx0
  have hsz : Wa.heap.size = W.heap.size + 1 := by rw [← hWa]; simp
  have hb1 : Below Wa.heap.size Wa (Wa.alloc (.cells #[.int .i64 0] 3)) := (Below.refl _ _).alloc (Nat.le_refl _) _
  have hC : Ct w0 blk Wa.heap.size (Wa.alloc (.cells #[.int .i64 0] 3)) 0 := ⟨Blk.new _ _ _, by omega, by have := hR.foot.size; omega⟩
  have hx1 := hx0.below hb1
  have hr1 := (hR.below hb0).below hb1
  have hfW : Foot W (Wa.alloc (.cells #[.int .i64 0] 3)) (fun g => g ≠ blk) := Foot.ofBelow (bchain hb0 hb1) _
  have hlift : ∀ w', Counts w0 blk off n Wa.heap.size (Wa.alloc (.cells #[.int .i64 0] 3)) d 0 w' → True := fun _ _ => trivial
  clear hlift
  generalize hWb : Wa.alloc (.cells #[.int .i64 0] 3) = Wb at hb1 hC hx1 hr1 hfW
  have hszb : Wb.heap.size = W.heap.size + 2 := by rw [← hWb]; simp; omega
  have fin : ∀ w', Rw w0 blk off n w' d → Foot Wb w' (fun g => g ≠ Wa.heap.size) → SortLeaves w0 blk off n W d w' := fun w' h1 h2 =>
    ⟨h1, ⟨h2.os.trans hfW.os, h2.tape.trans hfW.tape, h2.output.trans hfW.output, Nat.le_trans hfW.size h2.size, fun k hk ho => (h2.block k (by omega) (by omega)).trans (hfW.block k hk ho)⟩⟩
  have FIN := Lib.hid fin
  have HWA := Lib.hid hWa
  have HWB := Lib.hid hWb
  have HSZ := Lib.hid hsz
  obtain ⟨cb, hcb⟩ : ∃ cb, cb = Wa.heap.size := ⟨_, rfl⟩
  have HCB : Hid (cb = W.heap.size + 1) := Lib.hid (hcb.trans hsz)
  rw [← hcb] at hC fin FIN
  have hne : W.heap.size ≠ cb := by have := HCB.out; omega
  clear fin hWa hWb hsz hszb hb0 hb1 hx0 hfW hR hcb
  obtain ⟨I, hI⟩ : ∃ I : Nat, I = a + (b - a) / 4 * 1 := ⟨_, rfl⟩
  obtain ⟨J, hJ⟩ : ∃ J : Nat, J = a + (b - a) / 4 * 2 := ⟨_, rfl⟩
  obtain ⟨K, hK⟩ : ∃ K : Nat, K = a + (b - a) / 4 * 3 := ⟨_, rfl⟩
  have eI : ((a : Int) + ((b : Int) - (a : Int)) / 4) = (I : Int) := by omega
  have eJ : ((a : Int) + ((b : Int) - (a : Int)) / 4 * 2) = (J : Int) := by omega
  have eK : ((a : Int) + ((b : Int) - (a : Int)) / 4 * 3) = (K : Int) := by omega
  rw [choosePivot_eq]
  by_cases h8 : b - a ≥ 8
  · by_cases h50 : b - a ≥ 50
    · obtain ⟨i1, s1, h1⟩ : ∃ i1 s1, medianAdjacent lt d I 0 = (i1, s1) := ⟨_, _, rfl⟩
      obtain ⟨j1, s2, h2⟩ : ∃ j1 s2, medianAdjacent lt d J s1 = (j1, s2) := ⟨_, _, rfl⟩
      obtain ⟨k1, s3, h3⟩ : ∃ k1 s3, medianAdjacent lt d K s2 = (k1, s3) := ⟨_, _, rfl⟩
      obtain ⟨p, s, h4⟩ : ∃ p s, median lt d i1 j1 k1 s3 = (p, s) := ⟨_, _, rfl⟩
      have hraw : rawPivot lt d a b = (p, s) := by simp only [rawPivot, if_pos h8, if_pos h50, ← hI, ← hJ, ← hK, h1, h2, h3, h4]
      have m1 := medianAdjacent_mem lt d I 0; rw [h1] at m1
      have m2 := medianAdjacent_mem lt d J s1; rw [h2] at m2
      have m3 := medianAdjacent_mem lt d K s2; rw [h3] at m3
      have n1 := medianAdjacent_count lt d I 0; rw [h1] at n1
      have n2 := medianAdjacent_count lt d J s1; rw [h2] at n2
      have n3 := medianAdjacent_count lt d K s2; rw [h3] at n3
      simp only at m1 m2 m3 n1 n2 n3
      have k1' := adjacent_any L Wb d hr1 I cb 0 (by omega) (by omega) (by omega) hC
      rw [h1] at k1'
      have k2' := fun W' (hr : Rw w0 blk off n W' d) (hq : Ct w0 blk cb W' s1) => adjacent_any L W' d hr J cb s1 (by omega) (by omega) (by omega) hq
      rw [h2] at k2'
      have k3' := fun W' (hr : Rw w0 blk off n W' d) (hq : Ct w0 blk cb W' s2) => adjacent_any L W' d hr K cb s2 (by omega) (by omega) (by omega) hq
      rw [h3] at k3'
      have k4' := fun W' (hr : Rw w0 blk off n W' d) (hq : Ct w0 blk cb W' s3) => median_any L W' d hr i1 j1 k1 cb s3 (by omega) (by omega) (by omega) (by omega) hq
      rw [h4] at k4'
      have K1 := Lib.hid k1'
      have K2 := Lib.hid k2'
      have K3 := Lib.hid k3'
      have K4 := Lib.hid k4'
      rw [hraw]
      clear k1' k2' k3' k4' h1 h2 h3 h4 hraw hI hJ hK m1 m2 m3 n1 n2 n3
      have p0 := hx1.c0
      have p1 := hx1.c1
      have hway := Lib.hid (hintWays s)
      go_enter Tryz.func106, Tryz.ntmps106
      go_wp2_with fail
      rw [HWA.out, HWB.out, ← HCB.out]
      refine K1.out.mono ?_
      rintro e w1 ⟨rfl, hr2, hc2, hf2⟩
      have hx2 := hx1.foot hf2 hne
      have p2 := hx2.c0
      have p3 := hx2.c1
      go_wp2_with fail
      go_at_call 119
      refine (K2.out _ hr2 hc2).mono ?_
      rintro e w2 ⟨rfl, hr3, hc3, hf3⟩
      have hx3 := hx2.foot hf3 hne
      have p4 := hx3.c0
      have p5 := hx3.c1
      go_wp2_with fail
      go_at_call 119
      refine (K3.out _ hr3 hc3).mono ?_
      rintro e w3 ⟨rfl, hr4, hc3', hf4⟩
      have hx4 := hx3.foot hf4 hne
      have p6 := hx4.c0
      have p7 := hx4.c1
      go_wp2_with fail
      go_at_call 120
      refine (K4.out _ hr4 hc3').mono ?_
      rintro e w4 ⟨rfl, hr5, hc4, hf5⟩
      have q0 : w4.cell? ⟨cb, 0, none⟩ = some (.int .i64 s) := hc4.own.cell 0
      rcases hway.out with ⟨rfl, hh⟩ | ⟨rfl, hh⟩ | ⟨e0, e1, hh⟩
      all_goals
        have HH := Lib.hid hh
        clear hh
        go_wp2_with fail
        go_ret2
        rw [HH.out]
        exact ⟨rfl, FIN.out _ hr5 (((hf2.trans hf3).trans hf4).trans hf5)⟩
    · obtain ⟨p, s, h4⟩ : ∃ p s, median lt d I J K 0 = (p, s) := ⟨_, _, rfl⟩
      have hraw : rawPivot lt d a b = (p, s) := by simp only [rawPivot, if_pos h8, if_neg h50, ← hI, ← hJ, ← hK, h4]
      have k4' := median_any L Wb d hr1 I J K cb 0 (by omega) (by omega) (by omega) (by omega) hC
      rw [h4] at k4'
      have K4 := Lib.hid k4'
      rw [hraw]
      clear k4' h4 hraw hI hJ hK
      have p0 := hx1.c0
      have p1 := hx1.c1
      have hway := Lib.hid (hintWays s)
      go_enter Tryz.func106, Tryz.ntmps106
      go_wp2_with fail
      rw [HWA.out, HWB.out, ← HCB.out]
      refine K4.out.mono ?_
      rintro e w4 ⟨rfl, hr5, hc4, hf5⟩
      have q0 : w4.cell? ⟨cb, 0, none⟩ = some (.int .i64 s) := hc4.own.cell 0
      rcases hway.out with ⟨rfl, hh⟩ | ⟨rfl, hh⟩ | ⟨e0, e1, hh⟩
      all_goals
        have HH := Lib.hid hh
        clear hh
        go_wp2_with fail
        go_ret2
        rw [HH.out]
        exact ⟨rfl, FIN.out _ hr5 (hf5)⟩
  · have hraw : rawPivot lt d a b = (J, 0) := by simp only [rawPivot, if_neg h8, ← hJ]
    rw [hraw]
    clear hraw hI hJ hK
    have HH : Hid (hintCode (hintOf 0) = 1) := Lib.hid rfl
    go_enter Tryz.func106, Tryz.ntmps106
    go_wp2_with fail
    go_ret2
    rw [HWA.out, HWB.out, HH.out]
    exact ⟨rfl, FIN.out _ hr1 (Foot.refl _ _)⟩
end
end Go.Proofs.YtfpikilhbkeajaaGreatDoor.SortPivot
