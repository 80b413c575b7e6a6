/-
  The walk of the tables' drive: the numbers of leaves, rising, each once.
-/
import Derived.Test.YtfpikilhbkeajaaGreatDoorCLeaves
import Derived.Test.YtfpikilhbkeajaaGreatDoorCTab
import Derived.Shelf.Sort.Plain
import Derived.Shelf.Slices.In.SortNone2
set_option linter.unusedVariables false
set_option linter.unusedSimpArgs false
namespace Go.Proofs.YtfpikilhbkeajaaGreatDoor.Drive
set_option maxRecDepth 100000
open Go.Shelf Go.Sort Go.RowKit Go.PlainAid Base Query QrySize EmitPlain EmitBase EmitPut LeafMap EmitNear TabPlain AllLeaves

theorem sort_heap {w : World} {g n : Nat} {os : Array Obj} {cur : Array Value} {e : TypeId} (d : Array Int) (hb : w.heap[g]? = some (.cells cur e (0, 0))) :
    Blk (grow (putRow (Value.int .i64) (Sort.ahead w n) g 0 d) os) g e (putCells (Value.int .i64) 0 d cur) := by
  have hg : g < w.heap.size := (Array.getElem?_eq_some_iff.1 hb).1
  unfold Blk
  rw [heap_grow_old _ _ (by simpa using hg)]
  simp [putRow, mapBlock, Sort.ahead, Array.getElem?_modify, hb, onCells]
theorem sort_grown {w : World} {g n : Nat} {os : Array Obj} (d : Array Int) : w.grownBy (grow (putRow (Value.int .i64) (Sort.ahead w n) g 0 d) os) (some g) := by
  refine ⟨rfl, rfl, rfl, by simp, fun k hk hne => ?_⟩
  rw [heap_grow_old _ _ (by simpa using hk)]
  have : g ≠ k := fun e => hne (by rw [e])
  simp [putRow, mapBlock, Sort.ahead, Array.getElem?_modify, this]
theorem holds_ints {w : World} {g : Nat} {cur : Array Value} {e : TypeId} {zs : List Int} (hb : w.heap[g]? = some (.cells cur e (0, 0))) (ht : cur.toList.take zs.length = ints zs) : Holds (Value.int .i64) w g 0 zs.toArray := by
  intro j hj
  have hj' : j < zs.length := by simpa using hj
  refine ⟨?_, by simp [World.frozen?, hb]⟩
  have h1 : (cur.toList.take zs.length)[j]? = (ints zs)[j]? := by rw [ht]
  rw [List.getElem?_take_of_lt hj'] at h1
  simp only [World.cell?, hb, Nat.zero_add]
  simp only [Option.isSome_none, Bool.false_eq_true, if_false]
  rw [← Array.getElem?_toList, h1]
  simp [ints, hj']
structure Dd (w wr : World) (g : Nat) (S : List Int) (i : Nat) (cu : Array Value) : Prop where
  blk : Blk wr g 3 cu
  head : ∀ (j : Nat) (y : Int), (ddup (S.take i))[j]? = some y → cu[j]? = some (.int .i64 y)
  tail : ∀ (j : Nat) (y : Int), i ≤ j → S[j]? = some y → cu[j]? = some (.int .i64 y)
  below : Below w.heap.size w wr
theorem Dd.start {w w3 : World} {g n : Nat} {os : Array Obj} {cur : Array Value} {zs : List Int} (hb : w3.heap[g]? = some (.cells cur 3 (0, 0))) (hl : zs.length ≤ cur.size) (hbel : Below w.heap.size w w3) (hg : w.heap.size ≤ g) :
    Dd w (grow (putRow (Value.int .i64) (Sort.ahead w3 n) g 0 zs.toArray) os) g zs 0 (putCells (Value.int .i64) 0 zs.toArray cur) := by
  refine ⟨sort_heap _ hb, fun j y h => by simp [ddup] at h, fun j y _ h => ?_, hbel.grown (sort_grown _) hbel.size (fun k hk => by cases hk; exact hg)⟩
  have hj : j < zs.length := (List.getElem?_eq_some_iff.1 h).1
  simp [putCells, hj, show j < cur.size by omega]
  have e : zs[j] = y := (List.getElem?_eq_some_iff.1 h).2
  simp [e]
theorem Dd.same {w wr : World} {g : Nat} {S : List Int} {i : Nat} {cu : Array Value} {x : Int} (h : Dd w wr g S i cu) (hx : S[i]? = some x) (hl : (ddup (S.take i)).getLast? = some x) : Dd w wr g S (i + 1) cu :=
  ⟨h.blk, fun j y hj => h.head j y (by rw [ddup_take hx] at hj; unfold dstep at hj; rw [if_pos hl] at hj; exact hj), fun j y hj => h.tail j y (by omega), h.below⟩
theorem Dd.more {w wr : World} {g : Nat} {S : List Int} {i : Nat} {cu : Array Value} {x : Int} (h : Dd w wr g S i cu) (hx : S[i]? = some x) (hl : (ddup (S.take i)).getLast? ≠ some x) (hg : w.heap.size ≤ g) :
    Dd w (wr.setCell ⟨g, (ddup (S.take i)).length, none⟩ (.int .i64 x)) g S (i + 1) (cu.setIfInBounds (ddup (S.take i)).length (.int .i64 x)) := by
  have hle : (ddup (S.take i)).length ≤ i := Nat.le_trans (ddup_len _) (by simp; omega)
  have hsz : i < cu.size := (Array.getElem?_eq_some_iff.1 (h.tail i x (Nat.le_refl _) hx)).1
  refine ⟨h.blk.set_ _ _, fun j y hj => ?_, fun j y hj hy => ?_, h.below.setCell hg _⟩
  · rw [ddup_take hx] at hj
    unfold dstep at hj
    rw [if_neg hl] at hj
    rw [Array.getElem?_setIfInBounds]
    by_cases e : (ddup (S.take i)).length = j
    · subst e
      rw [if_pos rfl, if_pos (by omega)]
      simp at hj
      rw [hj]
    · rw [if_neg e]
      refine h.head j y ?_
      have hlt : j < (ddup (S.take i) ++ [x]).length := (List.getElem?_eq_some_iff.1 hj).1
      simp only [List.length_append, List.length_singleton] at hlt
      rw [List.getElem?_append_left (by omega)] at hj
      exact hj
  · rw [Array.getElem?_setIfInBounds, if_neg (by omega)]
    exact h.tail j y (by omega) hy
theorem ddup_more {S : List Int} {i : Nat} {x : Int} (hx : S[i]? = some x) (hl : (ddup (S.take i)).getLast? ≠ some x) : (ddup (S.take (i + 1))).length = (ddup (S.take i)).length + 1 := by
  rw [ddup_take hx]; unfold dstep; rw [if_neg hl]; simp
theorem ddup_same {S : List Int} {i : Nat} {x : Int} (hx : S[i]? = some x) (hl : (ddup (S.take i)).getLast? = some x) : (ddup (S.take (i + 1))).length = (ddup (S.take i)).length := by
  rw [ddup_take hx]; unfold dstep; rw [if_pos hl]

def IsDrive (w : World) (D : List Int) (e : Ending) (w' : World) : Prop := ∃ A c, e = .returned (.slice A D.length c) ∧ Below w.heap.size w w' ∧ (D ≠ [] → SlcT w' 3 A (ints D))

set_option maxHeartbeats 4000000 in
theorem drive_nil (tb : Nat) (x : Lf → Int) (AD : Option Addr) (cD : Nat) (w : World) :
    Calls Tryz.prog 48 #[.pointer (some ⟨tb, 0, none⟩), .slice AD 0 cD] w (IsDrive w (driveL x [])) := by
  rw [show driveL x [] = [] by simp [driveL, ddup]]
  have HS := Lib.hid (show Calls Tryz.prog 75 #[.slice none 0 0] w fun e w' => e = .returned (.tuple #[]) ∧ w' = w from Any.sort_Ints_none (P := Tryz.prog) IntsLay.lays none 0 w)
  go_enter Tryz.func48, Tryz.ntmps48
  go_wp2_with fail
  refine wp_loop_rounds 1 ?_
  rw [rounds_succ]
  go_wp2_with (go_at_call 75; (with_reducible refine HS.out.mono ?_); rintro e w3 ⟨rfl, rfl⟩)
  refine wp_loop_rounds 1 ?_
  rw [rounds_succ]
  go_wp2_with fail
  go_ret
  exact ⟨none, 0, by rfl, Below.refl _ _, fun h => absurd rfl h⟩

set_option maxHeartbeats 4000000 in
theorem drive_cons (tb mb nm : Nat) (x : Lf → Int) (dr : List Lf) (AD : Option Addr) (cD : Nat) (w : World) (hT : w.cell? ⟨tb, 6, none⟩ = some (.map (some mb))) (htb : tb < w.heap.size) (hx : IsNum w mb nm x) (S : Slc w w.heap.size AD (lfCs dr)) (hok : ∀ l ∈ dr, LfOk l) (hl : dr.length ≤ 1073741824) (hne : dr ≠ []) :
    Calls Tryz.prog 48 #[.pointer (some ⟨tb, 0, none⟩), .slice AD dr.length cD] w (IsDrive w (driveL x dr)) := by
  obtain ⟨g1, o1, rfl, hg1, hc1⟩ := S (by intro e; have := lfCs_len dr; rw [e] at this; simp at this; exact hne (List.eq_nil_of_length_eq_zero (by omega)))
  have HX := Lib.hid hx
  have HC1 := Lib.hid hc1
  have HOK := Lib.hid hok
  have hmb := hx.lt
  clear hx hc1 hok
  go_enter Tryz.func48, Tryz.ntmps48
  go_wp2_with fail
  go_loopw [13, 5] (fun i v wr => ∃ k : Nat, k ≤ dr.length ∧ i = .int .i64 k ∧ Below w.heap.size w wr ∧ wr.ownsRow w.heap.size 3 1 v k (ints ((dr.take k).map x))) (fun i _ _ => dr.length - (intOf i).toNat)
  case atStart => exact ⟨0, Nat.zero_le _, rfl, Below.refl _ _, World.ownsRow_nil _ _ _ _⟩
  case round =>
    obtain ⟨k, hk, rfl, hbel, hown⟩ := hrel
    obtain ⟨A3, c3, rfl⟩ := own_slice hown
    rcases Nat.lt_or_ge k dr.length with hlt | hge
    · obtain ⟨y, hy⟩ : ∃ y, dr[k]? = some y := ⟨_, List.getElem?_eq_getElem hlt⟩
      obtain ⟨d0, d1⟩ := lfCs_at dr k y hy
      have x0 : wr.cell? ⟨g1, o1 + k * 2, none⟩ = some (.int .i64 y.field) := (hbel.cell (p := ⟨g1, o1 + k * 2, none⟩) (by show g1 < _; omega)).trans (HC1.out _ _ d0)
      have x1 : wr.cell? ⟨g1, o1 + k * 2 + 1, none⟩ = some (.string y.term) := (hbel.cell (p := ⟨g1, o1 + k * 2 + 1, none⟩) (by show g1 < _; omega)).trans (HC1.out _ _ d1)
      have i1 : (k : Int) < (dr.length : Int) := by omega
      have i3 : (k : Int) < 9223372036854775807 := by omega
      obtain ⟨W5, hW5⟩ : ∃ W, W = wr.alloc (.cells #[.int .i64 y.field, .string y.term] 51) := ⟨_, rfl⟩
      have hb5 : Below wr.heap.size wr W5 := by rw [hW5]; exact Base.bel
      have T5 : Blk W5 wr.heap.size 51 #[.int .i64 y.field, .string y.term] := by rw [hW5]; exact Blk.new _ _ _
      have t0 : W5.cell? ⟨wr.heap.size, 0, none⟩ = some (.int .i64 y.field) := T5.cell 0
      have t1 : W5.cell? ⟨wr.heap.size, 1, none⟩ = some (.string y.term) := T5.cell 1
      have hszr := hbel.size
      have hbW : Below w.heap.size w W5 := hbel.trans (hb5.mono hbel.size)
      have hw5 : w.heap.size ≤ W5.heap.size := hbW.size
      have e6 : W5.cell? ⟨tb, 6, none⟩ = some (.map (some mb)) := (hbW.cell (p := ⟨tb, 6, none⟩) htb).trans hT
      have hlk : (Instr.lookup 66 (.map (some mb)) (.agg #[.int .i64 y.field, .string y.term]) false).run Tryz.prog W5.drew = .ok (.int .i64 (x y)) W5.drew := (HX.out.below hbW.drew hmb).look (l := y) (HOK.out y (List.mem_of_getElem? hy))
      have hPl : W5.ownsRow w.heap.size 3 1 (.slice A3 k c3) k (ints ((dr.take k).map x)) := own_below hown hb5
      obtain ⟨ie1, ⟨ii, ie2, ie3, ie4, ie5⟩, ie6, ie7⟩ := intEl
      have hnew : ∀ o, (W5.alloc o).drew.heap[W5.heap.size]? = some o := fun o => heap_alloc_new W5 o
      have HY := Lib.hid hy
      have HW5 := Lib.hid hW5
      have HBW := Lib.hid hbW
      clear hy hW5 hbW hb5 T5 hown hbel d0 d1
      go_upto_region 5 with fail
      rw [← HW5.out]
      go_region_law ((refine step_append_kept (by rfl) _ _ _ (by rfl) w.heap.size 3 ii _ 1 8 ie1 ie2 ie3 ie4 ie5 ie6 ie7 (.slice A3 k c3) k _ (by rfl) ((hPl.alloc _).drew) ⟨W5.heap.size, 0, none⟩ 1 1 [.int .i64 (x y)] (by rfl) (by rfl) (World.news_of_block (cs := #[.int .i64 (x y)]) (t := 3) (fr := (0, 0)) (hnew _)) (by simp [Value.oneCell']) (by omega) (by unfold maxLen; omega) (by omega) (by simp only [World.size_drew, World.size_alloc]; omega) ?_; intro gg cap w7 hown7 hat))
      all_goals
        go_wp2_with fail
        go_roundw
        case rel =>
          refine ⟨k + 1, by omega, by go_num, ?_, ?_⟩
          · have hb6 : Below w.heap.size w (W5.alloc (.cells #[.int .i64 (x y)] 3)).drew := by have := HBW.out; exact Base.bel
            rcases hat with ⟨e, hg⟩ | ⟨_, hg⟩
            · exact hb6.grown hg hb6.size (fun k' hk' => by cases hk'; exact (hPl.lt _ e).1)
            · exact hb6.grown hg hb6.size (fun k' hk' => by cases hk')
          · rw [List.take_add_one, HY.out]
            simpa [ints] using hown7
        case measure => simp [intOf]; omega
    · obtain rfl : k = dr.length := by omega
      rw [List.take_length] at hown
      rcases hown.2 with ⟨_, h0⟩ | ⟨g, cap, cur, e, hg, hb, h1, h2, h3, h4⟩
      · exact absurd (List.eq_nil_of_length_eq_zero h0) hne
      simp only [Value.slice.injEq] at e
      obtain ⟨rfl, _, rfl⟩ := e
      obtain ⟨ZS, hZS⟩ : ∃ Z, Z = (dr.map x).mergeSort fun a b => decide (a ≤ b) := ⟨_, rfl⟩
      have hzl : ZS.length = dr.length := by rw [hZS]; simp
      have hDL : driveL x dr = ddup ZS := by rw [hZS]; rfl
      have HS := Lib.hid (show Calls Tryz.prog 75 #[.slice (some ⟨g, 0, none⟩) dr.length c3] wr fun e w' => e = .returned (.tuple #[]) ∧ ∃ cu, Dd w w' g ZS 0 cu by
        have := Any.sort_Ints (P := Tryz.prog) IntsLay.lays g 0 c3 (dr.map x) wr (holds_ints hb (by simpa using h4)) (Array.getElem?_eq_some_iff.1 hb).1 (by simp; omega)
        rw [List.length_map] at this
        refine this.mono ?_
        rintro e w' ⟨rfl, n, os, rfl⟩
        rw [← hZS]
        exact ⟨rfl, _, Dd.start hb (by omega) hbel hg⟩)
      have HDZ := Lib.hid hDL
      clear hown hb h2 h3 h4 hZS hDL
      go_wp2_with (go_at_call 75; (with_reducible refine HS.out.mono ?_); rintro e w3 ⟨rfl, cu0, hD0⟩; have HD0 := Lib.hid hD0; clear hD0)
      go_loopw [31, 8] (fun i n wr => ∃ (k : Nat) (cu : Array Value), k ≤ dr.length ∧ i = .int .i64 k ∧ n = .int .i64 ((ddup (ZS.take k)).length : Int) ∧ Dd w wr g ZS k cu) (fun i _ _ => dr.length - (intOf i).toNat)
      case atStart => exact ⟨0, cu0, Nat.zero_le _, rfl, rfl, HD0.out⟩
      case round =>
        obtain ⟨k, cu, hk, rfl, rfl, hD⟩ := hrel
        rcases Nat.lt_or_ge k dr.length with hlt | hge
        · obtain ⟨y, hy⟩ : ∃ y, ZS[k]? = some y := ⟨_, List.getElem?_eq_getElem (by omega)⟩
          obtain ⟨M, hM⟩ : ∃ M, M = (ddup (ZS.take k)).length := ⟨_, rfl⟩
          have hMk : M ≤ k := by rw [hM]; exact Nat.le_trans (ddup_len _) (by simp; omega)
          have x0 : wr.cell? ⟨g, k, none⟩ = some (.int .i64 y) := (hD.blk.cell k).trans (hD.tail k y (Nat.le_refl _) hy)
          have f0 : wr.frozen? ⟨g, M, none⟩ = false := hD.blk.frozen M
          have xM : ∃ u, wr.cell? ⟨g, M, none⟩ = some u := by
            rw [hD.blk.cell M]
            have hsz : k < cu.size := (Array.getElem?_eq_some_iff.1 (hD.tail k y (Nat.le_refl _) hy)).1
            exact ⟨_, Array.getElem?_eq_getElem (by omega)⟩
          obtain ⟨uM, xM⟩ := xM
          have i1 : (k : Int) < (dr.length : Int) := by omega
          have i3 : (k : Int) < 9223372036854775807 := by omega
          have i4 : (M : Int) < (dr.length : Int) := by omega
          have i5 : (M : Int) < 9223372036854775807 := by omega
          rw [← hM]
          have HDD := Lib.hid hD
          have HMM := Lib.hid hM
          have HYY := Lib.hid hy
          clear hD hM hy
          rcases Nat.eq_zero_or_pos k with h0 | h0
          · subst h0
            obtain rfl : M = 0 := by omega
            go_wp2_with fail
            go_roundw
            case rel => exact ⟨1, _, by omega, by go_num, by rw [ddup_more HYY.out (by simp [ddup])]; rfl, HDD.out.more HYY.out (by simp [ddup]) hg⟩
            case measure => simp [intOf]; omega
          · have b1 : ((k : Int) == 0) = false := by simp; omega
            have hne2 : ddup (ZS.take k) ≠ [] := ddup_ne (by
              intro e
              have := congrArg List.length e
              rw [List.length_take, List.length_nil] at this
              omega)
            obtain ⟨m, hm⟩ : ∃ m, M = m + 1 := ⟨M - 1, by have := List.length_pos_iff.2 hne2; rw [← HMM.out] at this; omega⟩
            have hm1 : (M : Int) - 1 = (m : Int) := by omega
            have i6 : (m : Int) < (dr.length : Int) := by omega
            have i7 : (m : Int) < 9223372036854775807 := by omega
            obtain ⟨z, hz⟩ : ∃ z, (ddup (ZS.take k)).getLast? = some z := ⟨_, List.getLast?_eq_some_getLast hne2⟩
            have hz2 := hz
            rw [List.getLast?_eq_getElem?, ← HMM.out, show M - 1 = m by omega] at hz2
            have xm : wr.cell? ⟨g, m, none⟩ = some (.int .i64 z) := (HDD.out.blk.cell m).trans (HDD.out.head m z hz2)
            have HZ := Lib.hid hz
            clear hz hz2 hne2 hm
            rcases Decidable.em (y = z) with e | e
            · subst e
              go_wp2_with fail
              go_roundw
              case rel => exact ⟨k + 1, _, by omega, by go_num, by rw [ddup_same HYY.out HZ.out, ← HMM.out], HDD.out.same HYY.out HZ.out⟩
              case measure => simp [intOf]; omega
            · have hlast : Hid ((ddup (ZS.take k)).getLast? ≠ some y) := Lib.hid (by rw [HZ.out]; intro h; exact e (Option.some.inj h).symm)
              have b2 : (y != z) = true := bne_iff_ne.2 e
              clear e
              go_wp2_with fail
              go_roundw
              case rel => exact ⟨k + 1, _, by omega, by go_num, by rw [ddup_more HYY.out hlast.out, ← HMM.out]; rfl, by have := HDD.out.more HYY.out hlast.out hg; rw [← HMM.out] at this; exact this⟩
              case measure => simp [intOf]; omega
        · obtain rfl : k = dr.length := by omega
          have etk : ZS.take dr.length = ZS := by rw [← hzl, List.take_length]
          rw [etk]
          have hlen := ddup_len ZS
          rw [hzl] at hlen
          obtain ⟨DL, hDL⟩ : ∃ D, D = ddup ZS := ⟨_, rfl⟩
          have HDD := Lib.hid hD
          have HDL := Lib.hid hDL
          rw [← hDL] at hlen ⊢
          have i5 : DL.length ≤ c3 := by omega
          have HET := Lib.hid etk
          clear hD hDL etk
          go_wp2_with fail
          go_ret
          refine ⟨_, _, by rw [HDZ.out, ← HDL.out]; rfl, HDD.out.below, fun _ => ⟨g, 0, cu, (0, 0), rfl, HDD.out.blk, fun j u hu => ?_⟩⟩
          rw [Nat.zero_add, HDD.out.blk.cell j]
          rw [HDZ.out, ← HDL.out] at hu
          obtain ⟨y, hy, rfl⟩ : ∃ y, DL[j]? = some y ∧ u = .int .i64 y := by
            unfold ints at hu
            rw [List.getElem?_map] at hu
            obtain ⟨y, hy, e⟩ := Option.map_eq_some_iff.1 hu
            exact ⟨y, hy, e.symm⟩
          exact HDD.out.head j y (by rw [HET.out, ← HDL.out]; exact hy)
theorem drive_any (tb mb nm : Nat) (x : Lf → Int) (dr : List Lf) (AD : Option Addr) (cD : Nat) (w : World) (hT : w.cell? ⟨tb, 6, none⟩ = some (.map (some mb))) (htb : tb < w.heap.size) (hx : IsNum w mb nm x) (S : Slc w w.heap.size AD (lfCs dr)) (hok : ∀ l ∈ dr, LfOk l) (hl : dr.length ≤ 1073741824) :
    Calls Tryz.prog 48 #[.pointer (some ⟨tb, 0, none⟩), .slice AD dr.length cD] w (IsDrive w (driveL x dr)) := by
  by_cases h : dr = []
  · subst h
    exact drive_nil tb x AD cD w
  · exact drive_cons tb mb nm x dr AD cD w hT htb hx S hok hl h
end Go.Proofs.YtfpikilhbkeajaaGreatDoor.Drive
